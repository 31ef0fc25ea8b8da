/- By an AI agent. -/
import Derived.Test.YtfcofbfbgcbocaaGreatDoorR09
import Derived.Lib.Overlaps
import Derived.Shelf.Spec.SlicesInsert
import Derived.Lib.AppendZerosOnto
set_option linter.all false
set_option maxHeartbeats 20000000
namespace Go.Proofs.Y
open Go.Sx
abbrev Zs:List UInt8->List UInt8->Bool:=Op.bytesLess
theorem Zbd(a:List UInt8):Zs a []=false:=by cases a<;>rfl
theorem Z3d:∀a:List UInt8,Zs a a=false
 | []=>rfl
 | a::x=>by simp[Zs,Op.bytesLess,Z3d x,UInt8.lt_irrefl]
theorem Z2c:∀{a b c:List UInt8},Zs a b=true->Zs b c=true->Zs a c=true
 | _,[],_,h,_=>by rw[Zbd]at h;cases h
 | _,_::_,[],_,h=>by rw[Zbd]at h;cases h
 | [],_::_,_::_,_,_=>rfl
 | a::x,b::y,c::z,h1,h2=>by
  simp only[Zs,Op.bytesLess,Bool.or_eq_true,decide_eq_true_eq,Bool.and_eq_true,beq_iff_eq]at h1 h2⊢;rcases h1 with h1|⟨rfl,h1⟩
  ·rcases h2 with h2|⟨rfl,h2⟩
   ·exact .inl (UInt8.lt_trans h1 h2)
   ·exact .inl h1
  ·rcases h2 with h2|⟨rfl,h2⟩
   ·exact .inl h2
   ·exact .inr ⟨rfl,Z2c h1 h2⟩
theorem Zmw:∀{a b:List UInt8},Zs a b=false->Zs b a=false->a=b
 | [],[],_,_=>rfl
 | [],_::_,h,_=>by cases h
 | _::_,[],_,h=>by cases h
 | a::x,b::y,h1,h2=>by
  simp only[Zs,Op.bytesLess,Bool.or_eq_false_iff,decide_eq_false_iff_not,Bool.and_eq_false_iff,beq_eq_false_iff_ne]at h1 h2;have hab:a=b:=by
   rcases Nat.lt_trichotomy a.toNat b.toNat with h|h|h
   ·exact absurd (UInt8.lt_iff_toNat_lt.2 h) h1.1
   ·exact UInt8.toNat_inj.1 h
   ·exact absurd (UInt8.lt_iff_toNat_lt.2 h) h2.1
  subst hab;rw[Zmw (h1.2.resolve_left (by simp)) (h2.2.resolve_left (by simp))]
theorem Z4p{a b:List UInt8}(h:Zs a b=true):Zs b a=false:=by
 cases h2:Zs b a with
 | false=>rfl
 | true=>have:=Z2c h h2;rw[Z3d]at this;cases this
theorem Zbe{a b:List UInt8}(h:Zs a b=true):a≠b:=by rintro rfl;rw[Z3d]at h;cases h
theorem Z3y{a b:List UInt8}:Zs a b=false↔(Zs b a=true\/b=a):=by
 constructor
 ·intro h;cases h2:Zs b a with
  | true=>exact .inl rfl
  | false=>exact .inr (Zmw h2 h)
 ·rintro(h|rfl)
  ·exact Z4p h
  ·exact Z3d _
def Z9f(a b:List UInt8):Int:=if Zs a b=true then -1 else if a=b then 0 else 1
theorem Zmx:∀a b:List UInt8,Go.Lib.compareBytes a b=Z9f a b
 | [],[]=>rfl
 | [],_::_=>rfl
 | a::x,[]=>by simp[Z9f,Go.Lib.compareBytes,Zbd]
 | a::x,b::y=>by
  have ih:=Zmx x y;rw[Go.Lib.compareBytes,ih];unfold Z9f;simp only[Zs,Op.bytesLess,Bool.or_eq_true,decide_eq_true_eq,Bool.and_eq_true,beq_iff_eq,List.cons.injEq];by_cases h1:a<b
  ·simp[h1]
  ·by_cases h2:b<a
   ·have hne:a≠b:=by rintro rfl;exact h1 h2
    simp[h1,h2,hne]
   ·have hab:a=b:=by
     rcases Nat.lt_trichotomy a.toNat b.toNat with h|h|h
     ·exact absurd (UInt8.lt_iff_toNat_lt.2 h) h1
     ·exact UInt8.toNat_inj.1 h
     ·exact absurd (UInt8.lt_iff_toNat_lt.2 h) h2
    subst hab;simp[UInt8.lt_irrefl]
theorem Zyh{a b:List UInt8}:Z9f a b<0↔Zs a b=true:=by
 unfold Z9f;split
 ·simp[*]
 ·rename_i h;have h:Zs a b=false:=by simpa using h
  split<;>simp[h]
theorem Zph{a b:List UInt8}:Z9f a b=0↔a=b:=by
 unfold Z9f;split
 ·rename_i h;simp only[show ¬((-1:Int)=0) by decide,false_iff];exact Zbe h
 ·split<;>simp[*]
theorem Zfy(w:World)(a b:List UInt8):Calls Tryz.prog 118 #[.string ⟨a.toArray⟩,.string ⟨b.toArray⟩] w λe w'=>e=.returned (.int .i64 (Z9f a b))/\Mod [] w w':=by refine(Any.strings_Compare Tryz.lays106 ⟨a.toArray⟩ ⟨b.toArray⟩ w).mono ?_;rintro e w' ⟨rfl,rfl⟩;rw[Zmx];exact⟨rfl,Mod.refl _ _⟩
theorem Z14d{a b:List UInt8}{i:Nat}(h:a.take i=b.take i)(hi:i<a.length)(hj:i<b.length)(hne:¬a.getD i 0=b.getD i 0):Zs a b=decide (a.getD i 0<b.getD i 0):=by
 induction i generalizing a b with
 | zero =>
  match a,b,hi,hj with
  | x::a,y::b,_,_ =>
   simp only[List.getD_cons_zero]at hne;simp[Zs,Op.bytesLess,hne]
 | succ i ih =>
  match a,b,hi,hj with
  | x::a,y::b,hi,hj =>
   simp only[List.take_succ_cons,List.cons.injEq]at h;obtain⟨rfl,h⟩:=h;simp only[List.getD_cons_succ]at hne⊢;have:=ih h (by simpa using hi) (by simpa using hj) hne
   show(decide (x<x) || (x == x && Zs a b))=_
   rw[this];simp[UInt8.lt_irrefl]
theorem Zyi{a b:List UInt8}{i:Nat}(h:a.take i=b.take i)(hi:i<=a.length)(hj:i<=b.length)(he:i=a.length\/i=b.length):Zs a b=decide (a.length<b.length):=by
 induction i generalizing a b with
 | zero =>
  match a,b with
  | [],[]=>rfl
  | [],_::_=>rfl
  | _::_,[]=>simp[Zbd]
  | _::_,_::_=>simp at he
 | succ i ih =>
  match a,b,hi,hj with
  | x::a,y::b,hi,hj =>
   simp only[List.take_succ_cons,List.cons.injEq]at h;obtain⟨rfl,h⟩:=h;have:=ih h (by simpa using hi) (by simpa using hj) (by simpa using he);simp[Zs,Op.bytesLess,UInt8.lt_irrefl];simpa using this
theorem Z191{a b:List UInt8}{i:Nat}(h:a.take i=b.take i)(hi:i<a.length)(hj:i<b.length)(he:a.getD i 0=b.getD i 0):a.take (i+1)=b.take (i+1):=by rw[List.take_add_one,List.take_add_one,h];simp only[qy1,qy7 hi,qy7 hj,Option.getD_some]at he;rw[qy7 hi,qy7 hj,he]
theorem Zmy(w:World)(a b:List UInt8)(ha:a.length<1099511627776):Calls Tryz.prog 43 #[.string ⟨a.toArray⟩,.string ⟨b.toArray⟩] w λe w'=>e=.returned (.bool (Zs a b))/\Mod [] w w':=by
 refine Z1 (Z7 (J:=[.s a,.s b]) sxE_ok Tryz.func43 Z2r rfl rfl rfl ?_) rfl;simp only[QQ,Nat.reduceAdd];refine⟨λvs=>∃(i:Nat) (x:V),vs=[x,.i i]/\i<=a.length/\i<=b.length/\a.take i=b.take i,λvs=>a.length - (vs.getD 1 (.i 0)).toI.toNat,⟨0,_,rfl,by omega,by omega,rfl⟩,?_⟩;rintro _ - ⟨i,x,rfl,hi,hj,ht⟩;simp only[QQ,Nat.reduceAdd,qy4];refine⟨λh1=>⟨by omega,λh2 w' hr=>⟨?_,hr.mod⟩,λh2=>⟨by omega,by omega,⟨i+1,x,rfl,by omega,by omega,Z191 ht (by omega) (by omega) ?_⟩,by omega⟩⟩,λh1 w' hr=>⟨?_,hr.mod⟩⟩
 ·rw[Z14d ht (by omega) (by omega) (λe=>h2 (by rw[e]))];simp[UInt8.lt_iff_toNat_lt]
 ·have h3:=qy9.1 h2;exact UInt8.toNat_inj.1 (by exact_mod_cast h3)
 ·rw[Zyi ht hi hj (by omega)];simp
abbrev Kp:=List UInt8×List UInt8×Int
def encK(k:Kp):List Value:=[.string ⟨k.1.toArray⟩,.string ⟨k.2.1.toArray⟩,.int .i64 k.2.2]
abbrev kD:Kp:=([],[],0)
abbrev kK:List Kd:=[.str,.str,.int .i64]
theorem gK0(l:List Kp)(i:Nat):Value.gS (((l.map encK).getD i []).getD 0 undef)=(l.getD i kD).1:=by simp only[qy1,List.getElem?_map];cases l[i]?<;>simp[encK,Value.gS,undef]
theorem gK1(l:List Kp)(i:Nat):Value.gS (((l.map encK).getD i []).getD 1 undef)=(l.getD i kD).2.1:=by simp only[qy1,List.getElem?_map];cases l[i]?<;>simp[encK,Value.gS,undef]
theorem gK2(l:List Kp)(i:Nat):Value.gI (((l.map encK).getD i []).getD 2 undef)=(l.getD i kD).2.2:=by simp only[qy1,List.getElem?_map];cases l[i]?<;>rfl
abbrev Z5r(w:World)(v:Value)(l:List Kp):Prop:=reads w v kK (l.map encK)
abbrev Zmz(w:World)(v:Value)(l:List Kp):Prop:=owns w v 95 kK (l.map encK)
theorem Z1f0(l:List Kp)(i:Nat)(h:i<l.length):l.drop i=l.getD i kD::l.drop (i+1):=by rw[List.drop_eq_getElem_cons h,qy1,qy7 h];rfl
theorem Z192(l:List Kp)(i:Nat)(h:i<l.length):l.take (i+1)=l.take i++[l.getD i kD]:=by rw[List.take_add_one,qy1,qy7 h];rfl
def Zfz(l:List Kp):Prop:=∀x∈l,x.1.length<4294967281
theorem Z8n{l:List Kp}(h:Zfz l)(i:Nat):(l.getD i kD).1.length<4294967281:=by
 by_cases hi:i<l.length
 ·rw[qy1,qy7 hi];exact h _ (List.getElem_mem hi)
 ·rw[qy1,List.getElem?_eq_none (by omega)];decide
def Ze2:Option (List UInt8)->List Kp->Int
 | _,[]=>0
 | p,k::l=>if chkT k.1 false≠0 then chkT k.1 false else if k.2.1=[]then 1 else if 200<(k.2.1.length:Int)then 2 else if k.2.2<1\/16777215<k.2.2 then 3
  else if(p.any λt=>!(Zs t k.1))=true then 4 else Ze2 (some k.1) l
def chkK(l:List Kp):Int:=if 16<(l.length:Int)then 2 else Ze2 none l
def Zuz(l:List Kp)(i:Nat):Option (List UInt8):=if i=0 then none else some (l.getD (i - 1) kD).1
theorem Zyj(l:List Kp)(i:Nat):((Zuz l i).any λt=>!(Zs t (l.getD i kD).1))=true↔(0<(i:Int)/\(Zs (l.getD i kD).1 (l.getD (i - 1) kD).1=true\/(l.getD i kD).1=(l.getD (i - 1) kD).1)):=by
 unfold Zuz;by_cases h:i=0
 ·simp[h]
 ·rw[if_neg h];simp only[Option.any_some,Bool.not_eq_true'];rw[Z3y];exact⟨λh2=>⟨by omega,h2⟩,λh2=>h2.2⟩
theorem Zil{l:List Kp}{i:Nat}(h:i<l.length):Ze2 (Zuz l i) (l.drop i)=if chkT (l.getD i kD).1 false≠0 then chkT (l.getD i kD).1 false else if(l.getD i kD).2.1=[]then 1 else if 200<((l.getD i kD).2.1.length:Int)then 2 else if(l.getD i kD).2.2<1\/16777215<(l.getD i kD).2.2 then 3
  else if 0<(i:Int)/\(Zs (l.getD i kD).1 (l.getD (i - 1) kD).1=true\/(l.getD i kD).1=(l.getD (i - 1) kD).1)then 4 else Ze2 (Zuz l (i+1)) (l.drop (i+1)):=by
 rw[Z1f0 l i h,Ze2];simp only[Zyj];rfl
theorem Z14e(w:World)(v:Value)(l:List Kp)(hv:Z5r w v l)(hs:Zfz l)(hl:l.length<1000000000):Calls Tryz.prog 59 #[sc1 v] w λe w'=>e=.returned (.int .i64 (chkK l))/\Mod [] w w':=by
 refine Z1 (Z3 (J:=[.v v,.r (l.map encK)]) sxE_ok Tryz.func59 Zfi rfl rfl (Rel.start2 (by simp[Ent.holds,Ent.wr,hv,X.ev])) rfl rfl ?_) rfl;simp only[QQ,Nat.reduceAdd,qy3,qy4,gK0,gK1,gK2];refine⟨λh w' hr=>⟨by rw[chkK,if_pos h],hr.mod⟩,λh=>?_⟩;rw[chkK,if_neg h];refine⟨λvs=>∃(i:Nat) (x:V),vs=[x,.i i]/\i<=l.length/\Ze2 (Zuz l i) (l.drop i)=Ze2 none l,λvs=>l.length - (vs.getD 1 (.i 0)).toI.toNat,⟨0,_,rfl,by omega,rfl⟩,?_⟩;rintro _ - ⟨i,x,rfl,hi,hg⟩;simp only[QQ,Nat.reduceAdd,qy3,qy4,gK0,gK1,gK2];have hi1:((i:Int) - 1).toNat=i - 1:=by omega
 try rw[hi1]
 refine⟨λh1=>⟨by omega,λb=>?_⟩,λh1 w' hr=>⟨?_,hr.mod⟩⟩
 ·rw[Zil (by omega)]at hg;refine⟨[.i (chkT (l.getD i kD).1 false)],rfl,λ_ w' _=>Zmn w' _ (Z8n hs i),?_⟩;simp only[QQ,Nat.reduceAdd,qy3,qy4,gK0,gK1,gK2];try rw[hi1]
  refine⟨λh2 w' hr=>⟨?_,hr.mod⟩,λh2=>⟨λh3 w' hr=>⟨?_,hr.mod⟩,λh3=>⟨λh4 w' hr=>⟨?_,hr.mod⟩,λh4=>⟨λh5 w' hr=>⟨?_,hr.mod⟩,λh5=>⟨by omega,by omega,by omega,by omega,λh6 w' hr=>⟨?_,hr.mod⟩,λh6=>⟨by omega,by omega,⟨i+1,x,rfl,by omega,?_⟩,by omega⟩⟩⟩⟩⟩⟩
  ·rw[if_pos h2]at hg;rw[<- hg]
  ·rw[if_neg h2,if_pos h3]at hg;rw[<- hg]
  ·rw[if_neg h2,if_neg h3,if_pos h4]at hg;rw[<- hg]
  ·rw[if_neg h2,if_neg h3,if_neg h4,if_pos h5]at hg;rw[<- hg]
  ·rw[if_neg h2,if_neg h3,if_neg h4,if_neg h5,if_pos h6]at hg;rw[<- hg]
  ·rw[if_neg h2,if_neg h3,if_neg h4,if_neg h5,if_neg h6]at hg;exact hg
 ·have:i=l.length:=by omega
  subst this;rw[List.drop_length]at hg;rw[<- hg];rfl
theorem Zpi(w:World)(v:Value)(l:List Kp)(hv:Z5r w v l)(hs:Zfz l)(hl:l.length<1000000000):Calls Tryz.prog 40 #[sc1 v] w λe w'=>e=.returned (.int .i64 (chkK l))/\Mod [] w w':=by
 refine Z1 (Z3 (J:=[.v v,.r (l.map encK)]) sxE_ok Tryz.func40 Z5c rfl rfl (Rel.start2 (by simp[Ent.holds,Ent.wr,hv,X.ev])) rfl rfl ?_) rfl;simp only[QQ,Nat.reduceAdd,qy3,qy4,gK0,gK1,gK2];refine⟨λh w' hr=>⟨by rw[chkK,if_pos h],hr.mod⟩,λh=>?_⟩;rw[chkK,if_neg h];refine⟨λvs=>∃(i:Nat) (x:V),vs=[x,.i i]/\i<=l.length/\Ze2 (Zuz l i) (l.drop i)=Ze2 none l,λvs=>l.length - (vs.getD 1 (.i 0)).toI.toNat,⟨0,_,rfl,by omega,rfl⟩,?_⟩;rintro _ - ⟨i,x,rfl,hi,hg⟩;simp only[QQ,Nat.reduceAdd,qy3,qy4,gK0,gK1,gK2];have hi1:((i:Int) - 1).toNat=i - 1:=by omega
 try rw[hi1]
 refine⟨λh1=>⟨by omega,?_⟩,λh1 w' hr=>⟨?_,hr.mod⟩⟩
 ·rw[Zil (by omega)]at hg;refine⟨[.i (chkT (l.getD i kD).1 false)],rfl,λ_ w' _=>Z5q w' _ false (Z8n hs i),?_⟩;simp only[QQ,Nat.reduceAdd,qy3,qy4,gK0,gK1,gK2];try rw[hi1]
  refine⟨λh2 w' hr=>⟨?_,hr.mod⟩,λh2=>⟨λh3 w' hr=>⟨?_,hr.mod⟩,λh3=>⟨λh4 w' hr=>⟨?_,hr.mod⟩,λh4=>⟨λh5 w' hr=>⟨?_,hr.mod⟩,λh5=>⟨by omega,by omega,by omega,by omega,?_⟩⟩⟩⟩⟩
  ·rw[if_pos h2]at hg;rw[<- hg]
  ·rw[if_neg h2,if_pos h3]at hg;rw[<- hg]
  ·rw[if_neg h2,if_neg h3,if_pos h4]at hg;rw[<- hg]
  ·rw[if_neg h2,if_neg h3,if_neg h4,if_pos (by omega)]at hg;rw[<- hg]
  ·rw[if_neg h2,if_neg h3,if_neg h4,if_neg (by omega)]at hg;refine⟨[.b (Zs (l.getD (i - 1) kD).1 (l.getD i kD).1)],rfl,λ_ w' _=>Zmy w' _ _ (Nat.lt_trans (Z8n hs (i - 1)) (by decide)),?_⟩;simp only[QQ,Nat.reduceAdd,qy3,qy4,gK0,gK1,gK2];refine⟨λh6 w' hr=>⟨?_,hr.mod⟩,λh6=>⟨by omega,by omega,⟨i+1,x,rfl,by omega,?_⟩,by omega⟩⟩
   ·rw[if_pos ⟨h6.1,Z3y.1 (by simpa using h6.2)⟩]at hg;rw[<- hg]
   ·rw[if_neg (λh7=>h6 ⟨h7.1,by simpa using Z3y.2 h7.2⟩)]at hg;exact hg
 ·have:i=l.length:=by omega
  subst this;rw[List.drop_length]at hg;rw[<- hg];rfl
def okK(k:Kp):Prop:=chkT k.1 false=0/\k.2.1≠[]/\¬200<(k.2.1.length:Int)/\1<=k.2.2/\k.2.2<=16777215
def Z7a(l:List Kp):Prop:=l.Pairwise λa b=>Zs a.1 b.1=true
theorem Zbf:∀(l:List Kp) (p:Option (List UInt8)),Ze2 p l=0↔(∀k∈l,okK k)/\Z7a l/\∀t,p=some t->∀k∈l,Zs t k.1=true
 | [],p=>by simp[Ze2,Z7a]
 | k::l,p=>by
  rw[Ze2];constructor
  ·intro h;split at h
   ·exact absurd h (by assumption)
   rename_i h1;split at h
   ·exact absurd h (by decide)
   rename_i h2;split at h
   ·exact absurd h (by decide)
   rename_i h3;split at h
   ·exact absurd h (by decide)
   rename_i h4;split at h
   ·exact absurd h (by decide)
   rename_i h5;obtain⟨i1,i2,i3⟩:=(Zbf l (some k.1)).1 h;refine⟨λx hx=>?_,List.pairwise_cons.2 ⟨λx hx=>i3 _ rfl x hx,i2⟩,λt ht x hx=>?_⟩
   ·rcases List.mem_cons.1 hx with rfl|hx
    ·exact⟨qy9.1 h1,h2,h3,by omega,by omega⟩
    ·exact i1 x hx
   ·subst ht;have h6:Zs t k.1=true:=by simpa using h5
    rcases List.mem_cons.1 hx with rfl|hx
    ·exact h6
    ·exact Z2c h6 (i3 _ rfl x hx)
  ·rintro⟨i1,i2,i3⟩;obtain⟨j1,j2⟩:=List.pairwise_cons.1 i2;obtain⟨o1,o2,o3,o4,o5⟩:=i1 k (qy8 ..);rw[if_neg (by simpa using o1),if_neg o2,if_neg o3,if_neg (by omega),if_neg]
   ·exact(Zbf l (some k.1)).2 ⟨λx hx=>i1 x (qy10 _ hx),j2,λt ht x hx=>by cases ht;exact j1 x hx⟩
   ·cases p with
    | none=>simp
    | some t=>simpa using i3 t rfl k (qy8 ..)
theorem Z17{l:List Kp}:chkK l=0↔l.length<=16/\(∀k∈l,okK k)/\Z7a l:=by
 unfold chkK;constructor
 ·intro h;split at h
  ·exact absurd h (by decide)
  ·obtain⟨a,b,-⟩:=(Zbf l none).1 h;exact⟨by omega,a,b⟩
 ·rintro⟨a,b,c⟩;rw[if_neg (by omega)];exact(Zbf l none).2 ⟨b,c,λt ht=>by cases ht⟩
theorem Zek{l:List Kp}(h:Z7a l){i j:Nat}(hij:i<j)(hj:j<l.length):Zs (l.getD i kD).1 (l.getD j kD).1=true:=by rw[Z7a,List.pairwise_iff_getElem]at h;have:=h i j (by omega) hj hij;simpa[qy1,qy7 hj,qy7 (Nat.lt_trans hij hj)]using this
def idx(l:List Kp)(n:List UInt8):Nat:=(l.filter λk=>Zs k.1 n).length
theorem Zs2{l:List Kp}{n:List UInt8}{i:Nat}(hi:i<=l.length)(h1:∀j,j<i->Zs (l.getD j kD).1 n=true)(h2:∀j,i<=j->j<l.length->Zs (l.getD j kD).1 n=false):i=idx l n:=by
 have e:l=l.take i++l.drop i:=(List.take_append_drop i l).symm;have f1:(l.take i).filter (λk=>Zs k.1 n)=l.take i:=by
  rw[List.filter_eq_self];intro x hx;obtain⟨j,hj,rfl⟩:=List.mem_iff_getElem.1 hx;have hj':j<i:=by simp at hj;omega
  have:=h1 j hj';rw[List.getElem_take];simpa[qy1,qy7 (show j<l.length by omega)]using this
 have f2:(l.drop i).filter (λk=>Zs k.1 n)=[]:=by
  rw[List.filter_eq_nil_iff];intro x hx;obtain⟨j,hj,rfl⟩:=List.mem_iff_getElem.1 hx;have hj':i+j<l.length:=by simp at hj;omega
  have:=h2 (i+j) (by omega) hj';rw[List.getElem_drop];simpa[qy1,qy7 hj']using this
 rw[idx,e,List.filter_append,f1,f2];simp;omega
def hasK(l:List Kp)(n:List UInt8):Bool:=decide (idx l n<l.length/\(l.getD (idx l n) kD).1=n)
theorem half(i j:Nat)(h:i+j<4000000000):Int.fdiv (IntKind.u64.wrap ((i:Int)+j)) (2 ^ (Nat.min (Int.toNat 1) IntKind.u64.bits))=(((i+j) / 2:Nat):Int):=by
 have e:(2:Int) ^ (Nat.min (Int.toNat 1) IntKind.u64.bits)=2:=by decide
 rw[e,IntKind.wrap_u64,Int.emod_eq_of_lt (by omega) (by omega),Int.fdiv_eq_ediv_of_nonneg _ (by decide)];omega
theorem Zyk(w:World)(v:Value)(l:List Kp)(n:List UInt8)(hv:Z5r w v l)(hs:Z7a l)(hl:l.length<1000000000):Calls Tryz.prog 73 #[sc1 v,.string ⟨n.toArray⟩] w λe w'=>e=.returned (.tuple #[.int .i64 (idx l n),.bool (hasK l n)])/\Mod [] w w':=by
 refine Z1 (Z3 (J:=[.v v,.r (l.map encK),.s n]) sxE_ok Tryz.func73 Zhm rfl rfl (Rel.start2 (by simp[Ent.holds,Ent.wr,hv,X.ev])) rfl rfl ?_) rfl;simp only[QQ,Nat.reduceAdd,qy3,qy4,gK0,gK1,gK2];refine⟨λvs=>∃(i j:Nat),vs=[.i i,.i j]/\i<=j/\j<=l.length/\(∀k,k<i->Zs (l.getD k kD).1 n=true)/\(∀k,j<=k->k<l.length->Zs (l.getD k kD).1 n=false),λvs=>(vs.getD 1 (.i 0)).toI.toNat - (vs.getD 0 (.i 0)).toI.toNat,⟨0,l.length,rfl,by omega,by omega,λk hk=>by omega,λk h1 h2=>by omega⟩,?_⟩;rintro _ - ⟨i,j,rfl,hij,hj,hA,hB⟩;simp only[QQ,Nat.reduceAdd,qy3,qy4,gK0,gK1,gK2];refine⟨λh1=>?_,λh1=>?_⟩
 ·rw[half i j (by omega)];obtain⟨h,hh⟩:∃h,h=(i+j) / 2:=⟨_,rfl⟩
  rw[<- hh];have hh1:i<=h/\h<j:=by omega
  simp only[qy4,gK0];refine⟨by omega,by omega,by omega,by omega,by omega,by omega,λb=>?_⟩;refine⟨[.i (Z9f (l.getD h kD).1 n)],rfl,λ_ w' _=>Zfy w' _ _,?_⟩;simp only[QQ,Nat.reduceAdd,qy3,qy4,gK0,gK1,gK2];rw[Zyh];refine⟨λh2=>⟨by omega,by omega,⟨h+1,j,rfl,by omega,hj,λk hk=>?_,hB⟩,by omega⟩,λh2=>⟨⟨i,h,rfl,by omega,by omega,hA,λk hk1 hk2=>?_⟩,by omega⟩⟩
  ·by_cases hkh:k=h
   ·rw[hkh];exact h2
   ·exact Z2c (Zek hs (i:=k) (j:=h) (by omega) (by omega)) h2
  ·have h3:Zs (l.getD h kD).1 n=false:=by simpa using h2
   by_cases hkh:k=h
   ·rw[hkh];exact h3
   ·cases h4:Zs (l.getD k kD).1 n with
    | false=>rfl
    | true =>
     have:=Z2c (Zek hs (i:=h) (j:=k) (by omega) hk2) h4;rw[h3]at this;cases this
 ·have hie:i=j:=by omega
  subst hie;have e:=Zs2 (i:=i) hj hA hB;refine⟨λh2=>⟨by omega,λb=>?_⟩,λh2 w' hr=>⟨?_,hr.mod⟩⟩
  ·refine⟨[.i (Z9f (l.getD i kD).1 n)],rfl,λ_ w' _=>Zfy w' _ _,?_⟩;simp only[QQ,Nat.reduceAdd,qy3,qy4,gK0,gK1,gK2];intro w' hr;refine⟨?_,hr.mod⟩;rw[hasK,<- e];simp only[Zph];congr 4
   simp;intro _;omega
  ·rw[hasK,<- e];have:¬i<l.length:=by omega
   simp[this]
end Go.Proofs.Y
namespace Go.Sx
open Go
theorem Z4i{P:Program}(w:World)(dT sT ty elem:TypeId)(sz:Nat)(g o dLen dCap:Nat)(a:Addr)(sLen sCap:Nat)(cur:Array Value)(t:TypeId)(cs:List Value)(q:Nat)(hq:min sLen dLen=q) (hu:P.underlying dT=some (.slice elem)) (hs:(P.info? elem).map (·.size)=some sz) (hg:w.heap[g]?=some (.cells cur t (0,0))) (hn:cs.length=q*sz) (hsrc:∀j v,cs[j]?=some v->w.cell? (a.add j)=some v) (hfit:o+cs.length<=cur.size) (h1:∀v∈cs,v.oneCell'=true) : (Builtin.copy_ #[dT,sT] ty #[.slice (some ⟨g,o,none⟩) dLen dCap,.slice (some a) sLen sCap]).run P w = .ok (goInt q) (w.setRow g (cur.toList.take o++cs++cur.toList.drop (o+cs.length)).toArray):=by
 have hq':Nat.min sLen dLen=q:=hq;have hl:=run_loadCells_list (P:=P) w a cs hsrc;have hst:=run_storeCells_at P g o t cs 0 cur w hg (by simpa using hfit) h1;cases hr:P.info? elem with
 | none=>simp[hr]at hs
 | some i =>
  have hi:i.size=sz:=by simpa[hr]using hs
  simp[Builtin.copy_,run_underlying hu,Builtin.lenOf,Builtin.firstCells,sizeOf,typeInfo,hr,hi,hq',<- hn,hl,hst]
theorem Z193{α:Type}(cur cs vs:List α)(a b d:Nat)(h1:a+vs.length=b)(h2:b+cs.length=d)(h3:d<=cur.length) : (cur.take b++cs++cur.drop (b+cs.length)).take a++vs++(cur.take b++cs++cur.drop (b+cs.length)).drop (a+vs.length)=cur.take a++vs++cs++cur.drop d:=by
 subst h1 h2;have e1:(cur.take (a+vs.length)++cs++cur.drop (a+vs.length+cs.length)).take a=cur.take a:=by rw[List.append_assoc,List.take_append_of_le_length (by simp;omega),List.take_take,Nat.min_eq_left (by omega)]
 have e2:(cur.take (a+vs.length)++cs++cur.drop (a+vs.length+cs.length)).drop (a+vs.length)=cs++cur.drop (a+vs.length+cs.length):=by
  have hl:(cur.take (a+vs.length)).length=a+vs.length:=by simp;omega
  rw[List.append_assoc,List.drop_append_of_le_length (by omega),List.drop_eq_nil_of_le (by omega),List.nil_append]
 rw[e1,e2];simp
theorem Z194{α:Type}(hd vs cs rest:List α)(a:Nat)(h:hd.length+vs.length=a) : (hd++vs++rest).take a++cs++(hd++vs++rest).drop (a+cs.length)=hd++vs++cs++(hd++vs++rest).drop (a+cs.length):=by subst h;rw[List.take_append_of_le_length (by simp),List.take_of_length_le (by simp)]
theorem Z9g(z:Array Value)(n:Nat):(Builtin.zeroCells z n).size=n*z.size:=by simp[Builtin.zeroCells,Nat.mul_comm]
theorem Z7b{n:Nat}:∀{R:List (List Value)} (i:Nat),(∀r∈R,r.length=n)->R.flatten.take (i*n)=(R.take i).flatten
 | [],i,_=>by simp
 | r::R,0,_=>by simp
 | r::R,i+1,h=>by
  have h1:=h r (by simp);have ih:=Z7b (R:=R) i (λx hx=>h x (by simp[hx]));rw[List.flatten_cons,List.take_succ_cons,List.flatten_cons,<- ih,List.take_append,List.take_of_length_le (by rw[h1,Nat.succ_mul];omega)];congr 2
  rw[h1,Nat.succ_mul];omega
theorem Z7c{n:Nat}:∀{R:List (List Value)} (i:Nat),(∀r∈R,r.length=n)->R.flatten.drop (i*n)=(R.drop i).flatten
 | [],i,_=>by simp
 | r::R,0,_=>by simp
 | r::R,i+1,h=>by
  have h1:=h r (by simp);have ih:=Z7c (R:=R) i (λx hx=>h x (by simp[hx]));rw[List.flatten_cons,List.drop_succ_cons,<- ih,List.drop_append,List.drop_eq_nil_of_le (by rw[h1,Nat.succ_mul];omega),List.nil_append];congr 1
  rw[h1,Nat.succ_mul];omega
theorem Zkf{ks:List Kd}{R:List (List Value)}(h:∀r∈R,rowOk ks r):∀x∈R.flatten,x.oneCell'=true:=by intro x hx;obtain⟨row,hr,hx⟩:=List.mem_flatten.1 hx;exact(h row hr).one x hx
theorem Zv0(w:World)(r:Option Nat):w.grownBy w r:=⟨rfl,rfl,rfl,Nat.le_refl _,λ_ _ _=>rfl⟩
def Z9h(w w':World)(s v':Value)(ty:Nat)(ks:List Kd)(R:List (List Value)):Prop :=
 owns w' v' ty ks R/\(∀k,Z2 v' k->Z2 s k\/w.heap.size<=k)/\w.grownBy w' s.ownBlock
theorem Zkg{z:Array Value}{n:Nat}(hz:0<z.size)(h:∀v∈z.toList,v.oneCell'=true):∀v∈(Builtin.zeroCells z n).toList,v.oneCell'=true:=by intro v hv;simp only[Builtin.zeroCells,Array.toList_map,List.mem_map]at hv;obtain⟨i,-,rfl⟩:=hv;have hlt:i % z.size<z.size:=Nat.mod_lt _ hz;rw[getElem!_pos z _ hlt];exact h _ (Array.getElem_mem_toList hlt)
theorem Z1h{P:Program}{ops:Array Oper}{o:Oper}{a:Act}{w:World}{K:Act->World->Prop}{Q:Exit->Act->World->Prop}{E:Prop} (hg:o.guard=none) (d x:Operand) (dT sT:TypeId) (hop:o.op=Op.call { callee:=Callee.builtin Builtin.append,args:=#[d,x],argTypes:=#[dT,sT] })
  (v u:Value) (hd:a.eval d=v) (hx:a.eval x=u) {v':Value} {w':World} (hr:(Builtin.append_ #[dT,sT] o.type #[v,u]).run P w=.ok v' w') (hK:K (a.put o.dst v') w') :
  if Region.wanted o (yielded ops a.tmps)=true then Oper.wp P o a w K Q else E:=by
 have hw:Region.wanted o (yielded ops a.tmps)=true:=by simp[Region.wanted,hg]
 rw[if_pos hw];unfold Oper.wp;simp[execOp,hop,resolve,invoke,builtin,hd,hx,hr,Result.andThen];exact hK
theorem Z18{P:Program}(w:World){ops:Array Oper}{rest:List Oper}{o:Oper}{a:Act}{Q:Exit->Act->World->Prop}(hgd:o.guard=none)(d:Operand)(t:TypeId) (ho:o.op=.call { callee:=.builtin .clear,args:=#[d],argTypes:=#[t] }) (v:Value) (hd:a.eval d=v) {v':Value} {w':World}
  (hr:(Builtin.clear_ #[t] o.type #[v]).run P w=.ok v' w') (h:wpList P ops Q rest (a.put o.dst v') w'):wpList P ops Q (o::rest) a w :=
 wpList_plain hgd λ_ hK=>by unfold Oper.wp execOp;simp only[ho,resolve,invoke,builtin,Sem.run_bind,Sem.run_pure,Result.andThen_ok,List.map_toArray,List.map_cons,List.map_nil,hd,hr];exact hK _ _ h
open Go.Shelf Go.RowKit Go.Lib
theorem Z1cm{P:Program}{τ σ K:Nat}(hu:P.underlying σ=some (.slice τ))(hsz:(P.info? τ).map (·.size)=some K)(w:World)(g n c i vb m vc:Nat)(cs vs:List Value)(cur vcur cur2:Array Value)(hi:i<n)(hm:0<m)(hroom:n+m<=c)(hc63:c<=9223372036854775807)(hvb:vb≠g) (hg:w.heap[g]?=some (.cells cur τ (0,0))) (hcs:cur.size=c*K) (hv:w.heap[vb]?=some (.cells vcur τ (0,0))) (hvl:m*K<=vcur.size) (e1:cs=(cur.toList.drop (i*K)).take ((n - i)*K)) (e2:vs=vcur.toList.take (m*K)) (h1c:∀v∈cs,v.oneCell'=true) (h1v:∀v∈vs,v.oneCell'=true) (e3:cur2.toList=cur.toList.take (i*K)++vs++cs++cur.toList.drop ((n+m)*K)) : ∃cur1:Array Value, (∀ty dc sc,(Builtin.copy_ #[σ,σ] ty #[.slice (some ⟨g,(i+m)*K,none⟩) (n+m - (i+m)) dc,.slice (some ⟨g,i*K,none⟩) (n+m - i) sc]).run P w.drew=.ok (goInt ((n - i:Nat):Int)) (w.drew.setRow g cur1)) /\ (∀(W:World),W.heap=(w.drew.setRow g cur1).heap->∀ty dc,(Builtin.copy_ #[σ,σ] ty #[.slice (some ⟨g,i*K,none⟩) (n+m - i) dc,.slice (some ⟨vb,0,none⟩) m vc]).run P W=.ok (goInt m) (W.setRow g cur2)):=by
 have p1:=Nat.add_mul n m K;have p2:=Nat.add_mul i m K;have p3:=Nat.sub_mul n i K;have p4:(n+m)*K<=c*K:=Nat.mul_le_mul_right _ hroom;have p5:i*K<=n*K:=Nat.mul_le_mul_right _ (Nat.le_of_lt hi);have hcl:cs.length=(n - i)*K:=by rw[e1];simp;omega
 have hvl2:vs.length=m*K:=by rw[e2];simp;omega
 have hgd:w.drew.heap[g]?=some (.cells cur τ (0,0)):=hg;have hcp1:∀ty dc sc,(Builtin.copy_ #[σ,σ] ty #[.slice (some ⟨g,(i+m)*K,none⟩) (n+m - (i+m)) dc,.slice (some ⟨g,i*K,none⟩) (n+m - i) sc]).run P w.drew=.ok (goInt ((n - i:Nat):Int)) (w.drew.setRow g (cur.toList.take ((i+m)*K)++cs++cur.toList.drop ((i+m)*K+cs.length)).toArray):=λty dc sc =>
  Z4i (P:=P) w.drew σ σ ty τ K g ((i+m)*K) (n+m - (i+m)) dc ⟨g,i*K,none⟩ (n+m - i) sc cur τ cs (n - i) (by omega) hu hsz hgd hcl (λj v hj=>by
   rw[e1,List.getElem?_take]at hj;split at hj
   ·rw[Addr.add_lit];simp only[World.cell?,hgd];simpa using hj
   ·cases hj) (by rw[hcl];omega) h1c
 obtain⟨cur1,hcur1⟩:∃cur1:Array Value,cur1=(cur.toList.take ((i+m)*K)++cs++cur.toList.drop ((i+m)*K+cs.length)).toArray:=⟨_,rfl⟩
 rw[<- hcur1]at hcp1;have hs1:cur1.size=cur.size:=by rw[hcur1];simp only[List.size_toArray,qy11,List.length_take,List.length_drop,Array.length_toList,hcl];omega
 have hcp2:∀(W:World),W.heap=(w.drew.setRow g cur1).heap->∀ty dc,(Builtin.copy_ #[σ,σ] ty #[.slice (some ⟨g,i*K,none⟩) (n+m - i) dc,.slice (some ⟨vb,0,none⟩) m vc]).run P W=.ok (goInt m) (W.setRow g cur2):=λW hW ty dc=>by
  have hgW:W.heap[g]?=some (.cells cur1 τ (0,0)):=by rw[hW];exact setRow_heap _ _ _ _ _ _ hgd
  have hvW:W.heap[vb]?=some (.cells vcur τ (0,0)):=by rw[hW,setRow_other _ _ _ _ hvb];exact hv
  have:=Z4i (P:=P) W σ σ ty τ K g (i*K) (n+m - i) dc ⟨vb,0,none⟩ m vc cur1 τ vs m (by omega) hu hsz hgW hvl2 (λj v hj=>by
   rw[e2,List.getElem?_take]at hj;split at hj
   ·rw[Addr.add_lit];simp only[World.cell?,hvW,Nat.zero_add];simpa using hj
   ·cases hj) (by rw[hvl2,hs1];omega) h1v
  rw[this];congr 2
  apply Array.toList_inj.1;rw[e3,hcur1];simp only[List.toList_toArray];rw[Z193 cur.toList cs vs (i*K) ((i+m)*K) ((n+m)*K) (by rw[hvl2];omega) (by rw[hcl];omega) (by simp;omega)]
 exact⟨cur1,hcp1,hcp2⟩
theorem Z1f1{P:Program}{τ σ ι K BY:Nat}(hu:P.underlying σ=some (.slice τ))(hui:P.underlying ι=some (.int .i64)){i0:TypeInfo}{z:Value}(hi0:P.info? τ=some i0)(hk:i0.size=K)(hby:i0.bytes=BY)(hB:1<=BY)(hK0:0<K)(hz:i0.zero=some z)(hzs:z.cells.size=K)(w:World)(g n c i vb m vc:Nat)(hd cs vs:List Value)(cur vcur:Array Value)(hi:i<n)(hm:0<m)(hnc:n<=c)(hroom:c<n+m)(hbig:(n+m)*BY<=140737488355328) (hg:w.heap[g]?=some (.cells cur τ (0,0))) (hcs:cur.size=c*K) (hv:w.heap[vb]?=some (.cells vcur τ (0,0))) (hvl:m*K<=vcur.size) (e0:hd=cur.toList.take (i*K)) (e1:cs=(cur.toList.drop (i*K)).take ((n - i)*K)) (e2:vs=vcur.toList.take (m*K)) (h1c:∀v∈cs,v.oneCell'=true) (h1v:∀v∈vs,v.oneCell'=true) : ∃(G:Nat) (ROW cur2 cur3:Array Value),n+m<=G/\G<=maxLen /\ (∀ty,(Builtin.append_ #[σ,ι] ty #[.slice (some ⟨g,0,none⟩) i c,.int .i64 ((n:Int)+(m:Int) - (i:Int))]).run P w=.ok (.slice (some ⟨w.heap.size,0,none⟩) (n+m) G) (w.drew.alloc (.cells ROW τ))) /\ (∀(W:World),W.heap=(w.drew.alloc (.cells ROW τ)).heap->∀ty dc,(Builtin.copy_ #[σ,σ] ty #[.slice (some ⟨w.heap.size,i*K,none⟩) (n+m - i) dc,.slice (some ⟨vb,0,none⟩) m vc]).run P W=.ok (goInt m) (W.setRow w.heap.size cur2)) /\ (∀(W:World),W.heap=((w.drew.alloc (.cells ROW τ)).setRow w.heap.size cur2).heap->∀ty dc sc,(Builtin.copy_ #[σ,σ] ty #[.slice (some ⟨w.heap.size,(i+m)*K,none⟩) (n+m - (i+m)) dc,.slice (some ⟨g,i*K,none⟩) (n - i) sc]).run P W=.ok (goInt ((n - i:Nat):Int)) (W.setRow w.heap.size cur3)) /\ cur3.size=G*K/\cur3.toList.take ((n+m)*K)=hd++vs++cs /\ (∀W:World,W.heap=((w.drew.alloc (.cells ROW τ)).setRow w.heap.size cur2).heap->W.os=w.os->W.tape=w.tape->W.output=w.output->(W.setRow w.heap.size cur3).heap[w.heap.size]?=some (.cells cur3 τ (0,0))/\w.grownBy (W.setRow w.heap.size cur3) none):=by
 have hsz:(P.info? τ).map (·.size)=some K:=by rw[hi0];exact congrArg some hk
 have p1:=Nat.add_mul n m K;have p2:=Nat.add_mul i m K;have p3:=Nat.sub_mul n i K;have p4:n*K<=c*K:=Nat.mul_le_mul_right _ hnc;have p6:(n+m)*1<=(n+m)*BY:=Nat.mul_le_mul_left _ hB;have p7:=Nat.sub_mul (n+m) i K;have p0:(n+m - i)*BY<=(n+m)*BY:=Nat.mul_le_mul_right _ (by omega);have p5:i*K<=n*K:=Nat.mul_le_mul_right _ (Nat.le_of_lt hi);have hbw:g<w.heap.size:=(Array.getElem?_eq_some_iff.1 hg).1;have hvw:vb<w.heap.size:=(Array.getElem?_eq_some_iff.1 hv).1;have hkk:(n:Int)+(m:Int) - (i:Int)=((n+m - i:Nat):Int):=by omega
 have hik:i+(n+m - i)=n+m:=by omega
 have hgd:w.drew.heap[g]?=some (.cells cur τ (0,0)):=hg;have hhl:hd.length=i*K:=by rw[e0];simp;omega
 have hold:(Builtin.firstCells i0.size i (.slice (some ⟨g,0,none⟩) i c)).run P w.drew=.ok hd.toArray w.drew:=by
  rw[hk];exact run_firstCells_some w.drew K i ⟨g,0,none⟩ i c hd hhl (λj v hj=>by
   rw[Addr.add_lit];rw[e0,List.getElem?_take]at hj;split at hj
   ·simp only[World.cell?,hgd,Nat.zero_add];simpa using hj
   ·cases hj)
 have hrz:∀ty,(Builtin.append_ #[σ,ι] ty #[.slice (some ⟨g,0,none⟩) i c,.int .i64 ((n:Int)+(m:Int) - (i:Int))]).run P w =
   .ok (.slice (some ⟨w.heap.size,0,none⟩) (n+m) (grownCap w (n+m) c τ)) (w.drew.alloc (.cells (hd.toArray++Builtin.zeroCells z.cells (n+m - i)++Builtin.zeroCells z.cells (grownCap w (n+m) c τ - (n+m))) τ)):=λty=>by
  have h:=Lib.run_append_grow_zeros w σ ι ty τ i0 z .i64 .i64 hu hui hi0 hz (some ⟨g,0,none⟩) i c hd hold (n+m - i) (by omega) (by rw[hk];exact hK0) (by omega) (by omega) (by rw[hby];omega) (by rw[hby,hik];exact growslice_fits hroom hbig);rw[hik]at h;rw[hkk];exact h
 obtain⟨G,hG⟩:∃G,G=grownCap w (n+m) c τ:=⟨_,rfl⟩
 obtain⟨ROW,hROW⟩:∃ROW:Array Value,ROW=hd.toArray++Builtin.zeroCells z.cells (n+m - i)++Builtin.zeroCells z.cells (G - (n+m)):=⟨_,rfl⟩
 rw[<- hG]at hrz;rw[<- hROW]at hrz;have hGn:n+m<=G:=by rw[hG];exact grownCap_ge w _ _ _
 have hG63:G<=maxLen:=by have:=grownCap_le_maxLen w (n+m) c τ (by unfold maxLen;omega);rw[<- hG]at this;exact this
 have hG63':G<=9223372036854775807:=hG63;have p8:=Nat.sub_mul G (n+m) K;have p9:(n+m)*K<=G*K:=Nat.mul_le_mul_right _ hGn;have hRl:ROW.size=G*K:=by rw[hROW];simp only[Array.size_append,List.size_toArray,Z9g,hzs,hhl];omega
 have hRt:ROW.toList.take (i*K)=hd:=by rw[hROW];simp only[Array.toList_append,List.toList_toArray,List.append_assoc];rw[List.take_append_of_le_length (by omega),List.take_of_length_le (by omega)]
 have hcl:cs.length=(n - i)*K:=by rw[e1];simp;omega
 have hvl2:vs.length=m*K:=by rw[e2];simp;omega
 obtain⟨W1,hW1⟩:∃W1,W1=w.drew.alloc (.cells ROW τ):=⟨_,rfl⟩
 rw[<- hW1]at hrz;have hN:W1.heap[w.heap.size]?=some (.cells ROW τ (0,0)):=by rw[hW1];exact heap_alloc_new w.drew _
 have hO:∀k,k<w.heap.size->W1.heap[k]?=w.heap[k]?:=λk hk=>by rw[hW1];exact heap_alloc_old w.drew _ hk
 obtain⟨cur2,hcur2⟩:∃cur2:Array Value,cur2=(ROW.toList.take (i*K)++vs++ROW.toList.drop (i*K+vs.length)).toArray:=⟨_,rfl⟩
 obtain⟨cur3,hcur3⟩:∃cur3:Array Value,cur3=(cur2.toList.take ((i+m)*K)++cs++cur2.toList.drop ((i+m)*K+cs.length)).toArray:=⟨_,rfl⟩
 have hs2:cur2.size=ROW.size:=by rw[hcur2];simp only[List.size_toArray,qy11,List.length_take,List.length_drop,Array.length_toList,hvl2];omega
 have hs3:cur3.size=ROW.size:=by rw[hcur3];simp only[List.size_toArray,qy11,List.length_take,List.length_drop,Array.length_toList,hcl,hs2];omega
 have ht3:cur3.toList.take ((n+m)*K)=hd++vs++cs:=by rw[hcur3,hcur2];simp only[List.toList_toArray];rw[hRt,Z194 hd vs cs _ ((i+m)*K) (by omega)];rw[List.take_append_of_le_length (by simp only[qy11];omega),List.take_of_length_le (by simp only[qy11];omega)]
 have hcpA:∀(W:World),W.heap=W1.heap->∀ty dc,(Builtin.copy_ #[σ,σ] ty #[.slice (some ⟨w.heap.size,i*K,none⟩) (n+m - i) dc,.slice (some ⟨vb,0,none⟩) m vc]).run P W=.ok (goInt m) (W.setRow w.heap.size cur2):=λW hW ty dc=>by
  rw[hcur2];exact Z4i (P:=P) W σ σ ty τ K w.heap.size (i*K) (n+m - i) dc ⟨vb,0,none⟩ m vc ROW τ vs m (by omega) hu hsz (by rw[hW];exact hN) hvl2 (λj v hj=>by
   rw[e2,List.getElem?_take]at hj;split at hj
   ·rw[Addr.add_lit];simp only[World.cell?,hW,hO vb hvw,hv,Nat.zero_add];simpa using hj
   ·cases hj) (by rw[hvl2,hRl];omega) h1v
 have hcpB:∀(W:World),W.heap=(W1.setRow w.heap.size cur2).heap->∀ty dc sc,(Builtin.copy_ #[σ,σ] ty #[.slice (some ⟨w.heap.size,(i+m)*K,none⟩) (n+m - (i+m)) dc,.slice (some ⟨g,i*K,none⟩) (n - i) sc]).run P W=.ok (goInt ((n - i:Nat):Int)) (W.setRow w.heap.size cur3):=λW hW ty dc sc=>by
  rw[hcur3];exact Z4i (P:=P) W σ σ ty τ K w.heap.size ((i+m)*K) (n+m - (i+m)) dc ⟨g,i*K,none⟩ (n - i) sc cur2 τ cs (n - i) (by omega) hu hsz (by rw[hW];exact setRow_heap _ _ _ _ _ _ hN) hcl (λj v hj=>by
   rw[e1,List.getElem?_take]at hj;split at hj
   ·rw[Addr.add_lit];simp only[World.cell?,hW,setRow_other _ _ _ _ (Nat.ne_of_lt hbw),hO g hbw,hg];simpa using hj
   ·cases hj) (by rw[hcl,hs2,hRl];omega) h1c
 subst hW1;refine⟨G,ROW,cur2,cur3,hGn,hG63,hrz,hcpA,hcpB,by rw[hs3,hRl],ht3,λW hW ho ht hou=>⟨setRow_heap _ _ _ _ _ _ (by rw[hW];exact setRow_heap _ _ _ _ _ _ hN),ho,ht,hou,?_,λk hk _=>?_⟩⟩
 ·rw[setRow_size,hW,setRow_size];exact Nat.le_of_lt (by show w.heap.size<(w.heap.push _).size;rw[Array.size_push];omega)
 ·rw[setRow_other _ _ _ _ (by omega),hW,setRow_other _ _ _ _ (by omega)];exact hO k hk
def Zcs(P:Program)(f:FuncId):Prop:=∀(w:World) (b:Option Addr) (n c i:Nat) (vb:Option Addr) (vc:Nat),i<=n->n<=c->(b=none->c=0) ->
  Calls P f #[.slice b n c,.int .i64 i,.slice vb 0 vc] w λe w'=>e=.returned (.slice b n c)/\w'=w
def Zim(P:Program)(f:FuncId)(σ:Nat):Prop:=∀(w:World) (b:Option Addr) (n c:Nat) (vb:Option Addr) (m vc:Nat),0<m->n<=c->(b=none->c=0)->∀(v':Value) (w':World),
  (∀ty,(Builtin.append_ #[σ,σ] ty #[.slice b n c,.slice vb m vc]).run P w=.ok v' w') ->
  Calls P f #[.slice b n c,.int .i64 n,.slice vb m vc] w λe w1=>e=.returned v'/\w1=w'
def Z90(P:Program)(f ov:FuncId)(σ K:Nat):Prop:=∀(w:World) (g n c i vb m vc:Nat) (cur1 cur2:Array Value),i<n->0<m->n+m<=c->c<=9223372036854775807 ->
  (∀o lb cb,(callFunc ov #[.slice (some ⟨vb,0,none⟩) m vc,.slice (some ⟨g,o,none⟩) lb cb]).run P w=.ok (.value (.bool false)) w) ->
  (∀ty dc sc,(Builtin.copy_ #[σ,σ] ty #[.slice (some ⟨g,(i+m)*K,none⟩) (n+m - (i+m)) dc,.slice (some ⟨g,i*K,none⟩) (n+m - i) sc]).run P w.drew=.ok (goInt ((n - i:Nat):Int)) (w.drew.setRow g cur1)) ->
  (∀(W:World),W.heap=(w.drew.setRow g cur1).heap->∀ty dc,(Builtin.copy_ #[σ,σ] ty #[.slice (some ⟨g,i*K,none⟩) (n+m - i) dc,.slice (some ⟨vb,0,none⟩) m vc]).run P W=.ok (goInt m) (W.setRow g cur2)) ->
  Calls P f #[.slice (some ⟨g,0,none⟩) n c,.int .i64 i,.slice (some ⟨vb,0,none⟩) m vc] w λe w'=>e=.returned (.slice (some ⟨g,0,none⟩) (n+m) c)/\w'=w.drew.setRow g cur2
def Zct(P:Program)(f:FuncId)(τ σ ι K:Nat):Prop:=∀(w:World) (g n c i vb m vc G:Nat) (ROW cur2 cur3:Array Value),i<n->0<m->n<=c->c<n+m->n+m<=G->G<=9223372036854775807 ->
  (∀ty,(Builtin.append_ #[σ,ι] ty #[.slice (some ⟨g,0,none⟩) i c,.int .i64 ((n:Int)+(m:Int) - (i:Int))]).run P w=.ok (.slice (some ⟨w.heap.size,0,none⟩) (n+m) G) (w.drew.alloc (.cells ROW τ))) ->
  (∀(W:World),W.heap=(w.drew.alloc (.cells ROW τ)).heap->∀ty dc,(Builtin.copy_ #[σ,σ] ty #[.slice (some ⟨w.heap.size,i*K,none⟩) (n+m - i) dc,.slice (some ⟨vb,0,none⟩) m vc]).run P W=.ok (goInt m) (W.setRow w.heap.size cur2)) ->
  (∀(W:World),W.heap=((w.drew.alloc (.cells ROW τ)).setRow w.heap.size cur2).heap->∀ty dc sc,(Builtin.copy_ #[σ,σ] ty #[.slice (some ⟨w.heap.size,(i+m)*K,none⟩) (n+m - (i+m)) dc,.slice (some ⟨g,i*K,none⟩) (n - i) sc]).run P W=.ok (goInt ((n - i:Nat):Int)) (W.setRow w.heap.size cur3)) ->
  ∀Q:Ending->World->Prop,
  (∀W:World,W.heap=((w.drew.alloc (.cells ROW τ)).setRow w.heap.size cur2).heap->W.os=w.os->W.tape=w.tape->W.output=w.output->Q (.returned (.slice (some ⟨w.heap.size,0,none⟩) (n+m) G)) (W.setRow w.heap.size cur3)) ->
  Calls P f #[.slice (some ⟨g,0,none⟩) n c,.int .i64 i,.slice (some ⟨vb,0,none⟩) m vc] w Q
theorem insN{n i m:Nat}(hi:i<n)(hm:0<m)(hc:n+m<=9223372036854775807):¬((m:Int)=0)/\¬((i:Int)=(n:Int))/\IntKind.i64.wrap ((i:Int)+(m:Int))=(i:Int)+(m:Int)/\IntKind.i64.wrap ((n:Int)+(m:Int))=(n:Int)+(m:Int)/\(0:Int)<=(i:Int)+(m:Int)/\i<=n/\((i:Int)+(m:Int)).toNat=i+m/\((n:Int)+(m:Int)).toNat=n+m/\(i:Int)<=(n:Int)+(m:Int)/\(i:Int)<=(n:Int):=by refine⟨?_,?_,by rw[IntKind.wrap_i64];omega,by rw[IntKind.wrap_i64];omega,?_,?_,?_,?_,?_,?_⟩<;>omega
theorem Zg0{P:Program}{f ov:FuncId}{τ σ ι bt K BY:Nat}{ks:List Kd}(hu:P.underlying σ=some (.slice τ))(hui:P.underlying ι=some (.int .i64))(hI:(P.info? τ).map (λi=>(i.size,i.bytes,i.zero.map (·.cells.size)))=some (K,BY,some K))(hK:K=ks.length)(hK0:0<K)(hB:0<BY) (hOV:∀args w,(callFunc ov args).run P w=((Extern.SlicesOverlaps.overlaps #[σ,σ] #[bt] args).run P w).andThen λv w'=>.ok (.value v) w') (h1:Zcs P f) (h2:Zim P f σ) (h3:Z90 P f ov σ K) (h4:Zct P f τ σ ι K) (w:World) (s v:Value) (i:Nat) (R V:List (List Value)) (hs:owns w s τ ks R) (hv:owns w v τ ks V) (hne:∀k,Z2 s k->Z2 v k->False) (hi:i<=R.length) (hb:(R.length+V.length)*BY<=140737488355328) : Calls P f #[s,.int .i64 i,v] w λe w'=>∃v',e=.returned v'/\Z9h w w' s v' τ ks (R.take i++V++R.drop i):=by
 subst hK;obtain⟨inf,hinf,hI⟩:=Option.map_eq_some_iff.1 hI;have hk:inf.size=ks.length:=congrArg (·.1) hI;have hby:inf.bytes=BY:=congrArg (·.2.1) hI;obtain⟨z,hz,hzs⟩:=Option.map_eq_some_iff.1 (congrArg (·.2.2) hI);have hsz:(P.info? τ).map (·.size)=some ks.length:=by rw[hinf];exact congrArg some hk
 have hs':=hs;have hv':=hv;obtain⟨hk1,hl1,ho⟩:=hs;obtain⟨hk2,hl2,hov⟩:=hv;have hrl1:∀r∈R,r.length=ks.length:=λr hr=>(hk1 r hr).length;have hrl2:∀r∈V,r.length=ks.length:=λr hr=>(hk2 r hr).length;have hbase:∀{v:Value} {n:Nat} {xs:List Value},((v=.slice none 0 0/\n=0)\/∃g cap cur,v=.slice (some ⟨g,0,none⟩) n cap/\0<=g/\w.heap[g]?=some (.cells cur τ (0,0))/\n<=cap/\cap<=maxLen/\cur.size=cap*ks.length/\cur.toList.take (n*ks.length)=xs)->∃b c,v=.slice b n c/\n<=c/\(b=none->c=0):=by
  intro v n xs h;rcases h with⟨rfl,rfl⟩|⟨g,cap,cur,rfl,-,-,h,-⟩
  ·exact⟨none,0,rfl,Nat.le_refl _,λ_=>rfl⟩
  ·exact⟨some ⟨g,0,none⟩,cap,rfl,h,λh=>by cases h⟩
 by_cases hV:V=[]
 ·subst hV;obtain⟨b,c,rfl,hc1,hc2⟩:=hbase ho;obtain⟨vb,vc,rfl,-,-⟩:=hbase hov;refine(h1 w b R.length c i vb vc hi hc1 hc2).mono ?_;rintro e w' ⟨rfl,rfl⟩;exact⟨_,rfl,by simpa using hs',λk hk=>.inl hk,Zv0 _ _⟩
 have hVl:0<V.length:=List.length_pos_iff.2 hV;by_cases hin:i=R.length
 ·subst hin;obtain⟨b,c,rfl,hc1,hc2⟩:=hbase ho;obtain⟨vb,vc,rfl,-,-⟩:=hbase hov;obtain⟨v',w',e1,e2,e3,e4⟩:=Zi4 (ks:=ks) (ty:=σ) hu hinf hz hk hzs hby hK0 hs' hv'.reads hb hB;have hrun:∀ty,(Builtin.append_ #[σ,σ] ty #[.slice b R.length c,.slice vb V.length vc]).run P w=.ok v' w':=λty=>e1;refine(h2 w b R.length c vb V.length vc hVl hc1 hc2 v' w' hrun).mono ?_;rintro e w1 ⟨rfl,rfl⟩;exact⟨_,rfl,by simpa using e2,e4,e3⟩
 have hin:i<R.length:=by omega
 rcases ho with⟨-,hn⟩|⟨g,c,cur,rfl,-,hg,hnc,hcm,hcs,htk⟩
 ·omega
 rcases hov with⟨-,hn⟩|⟨vb,vc,vcur,rfl,-,hvg,hvn,-,hvs,hvt⟩
 ·omega
 replace hcs:cur.size=c*ks.length:=hcs;replace hvs:vcur.size=vc*ks.length:=hvs;replace htk:cur.toList.take (R.length*ks.length)=R.flatten:=htk;replace hvt:vcur.toList.take (V.length*ks.length)=V.flatten:=hvt;replace hl1:R.flatten.length=R.length*ks.length:=hl1;have hcl2:cur.toList.length=c*ks.length:=by rw[Array.length_toList];exact hcs
 replace hl2:V.flatten.length=V.length*ks.length:=hl2;have hvb:vb≠g:=λe=>hne g rfl (by rw[<- e];rfl);have t1:cur.toList.take (i*ks.length)=(R.take i).flatten:=by rw[<- Z7b i hrl1,<- htk,List.take_take,Nat.min_eq_left (Nat.mul_le_mul_right _ hi)]
 have t2:(cur.toList.drop (i*ks.length)).take ((R.length - i)*ks.length)=(R.drop i).flatten:=by rw[<- Z7c i hrl1,<- htk,List.drop_take,Nat.sub_mul]
 have o1:∀x∈(R.drop i).flatten,x.oneCell'=true:=Zkf λr hr=>hk1 r (List.mem_of_mem_drop hr);have o2:∀x∈V.flatten,x.oneCell'=true:=Zkf hk2;have hrows:∀r∈R.take i++V++R.drop i,rowOk ks r:=by
  intro r hr;simp only[qy13]at hr;rcases hr with(hr|hr)|hr
  ·exact hk1 r (List.mem_of_mem_take hr)
  ·exact hk2 r hr
  ·exact hk1 r (List.mem_of_mem_drop hr)
 have hlen:(R.take i++V++R.drop i).length=R.length+V.length:=by simp;omega
 have hfl:(R.take i++V++R.drop i).flatten.length=(R.length+V.length)*ks.length:=by have:=Zf (n:=ks.length) (λr hr=>(hrows r hr).length);rw[hlen]at this;exact this
 by_cases hroom:R.length+V.length<=c
 ·have p4:=Nat.mul_le_mul_right ks.length hroom;obtain⟨cur2,hcur2⟩:∃cur2:Array Value,cur2=(cur.toList.take (i*ks.length)++V.flatten++(R.drop i).flatten++cur.toList.drop ((R.length+V.length)*ks.length)).toArray:=⟨_,rfl⟩
  obtain⟨cur1,c1,c2⟩:=Z1cm hu hsz w g R.length c i vb V.length vc (R.drop i).flatten V.flatten cur vcur cur2 hin hVl hroom hcm hvb hg hcs hvg (by rw[hvs];exact Nat.mul_le_mul_right _ hvn) t2.symm hvt.symm o1 o2 (by rw[hcur2]);refine(h3 w g R.length c i vb V.length vc cur1 cur2 hin hVl hroom hcm (λo lb cb=>by rw[hOV,Lib.run_overlaps_apart w σ bt τ hu ks.length (λw=>by simp[sizeOf,typeInfo,hinf,hk]) ⟨vb,0,none⟩ ⟨g,o,none⟩ V.length vc lb cb hvb τ τ vcur.size cur.size (by simp[World.shape?,hvg]) (by simp[World.shape?,hg]) (by rw[hcs];exact Nat.pos_iff_ne_zero.1 (Nat.mul_pos (by omega) hK0)) (by simp[World.frozen?,hvg]) (by simp[World.frozen?,hvg])];rfl) c1 c2).mono ?_
  rintro e w' ⟨rfl,rfl⟩;have hgd:w.drew.heap[g]?=some (.cells cur τ (0,0)):=hg;refine⟨_,rfl,⟨hrows,?_,.inr ⟨g,c,cur2,by rw[hlen],Nat.zero_le _,setRow_heap _ _ _ _ _ _ hgd,by omega,hcm,?_,?_⟩⟩,λk hk=>.inl hk,rfl,rfl,rfl,by rw[setRow_size];exact Nat.le_refl _,λk hk hkr=>setRow_other _ _ _ _ (λe=>hkr (by rw[e];rfl))⟩
  ·rw[hfl,hlen]
  ·show cur2.size=c*ks.length
   rw[hcur2];have:(cur.toList.take (i*ks.length)++V.flatten++(R.drop i).flatten).length=(R.length+V.length)*ks.length:=by rw[t1,<- hfl];simp[List.flatten_append]
   rw[List.size_toArray,qy11,this,List.length_drop,hcl2];omega
  ·have:cur.toList.take (i*ks.length)++V.flatten++(R.drop i).flatten=(R.take i++V++R.drop i).flatten:=by
    rw[t1];simp[List.flatten_append]
   show cur2.toList.take (_*ks.length)=_
   rw[hcur2,List.toList_toArray,this,hlen,List.take_append_of_le_length (by omega),List.take_of_length_le (by omega)]
 ·obtain⟨G,ROW,cur2,cur3,a1,a2,a3,a4,a5,q3,q4,a6⟩:=Z1f1 hu hui hinf hk hby hB hK0 hz hzs w g R.length c i vb V.length vc (R.take i).flatten (R.drop i).flatten V.flatten cur vcur hin hVl hnc (by omega) hb hg hcs hvg (by rw[hvs];exact Nat.mul_le_mul_right _ hvn) t1.symm t2.symm hvt.symm o1 o2;refine h4 w g R.length c i vb V.length vc G ROW cur2 cur3 hin hVl hnc (by omega) a1 a2 a3 a4 a5 _ λW hW ho ht hou=>?_;obtain⟨q5,q6⟩:=a6 W hW ho ht hou;refine⟨_,rfl,⟨hrows,?_,.inr ⟨w.heap.size,G,cur3,by rw[hlen],Nat.zero_le _,q5,by omega,a2,q3,?_⟩⟩,λk hk=>.inr ?_,q6.os,q6.tape,q6.output,q6.size,λk hk _=>q6.block k hk (by simp)⟩
  ·rw[hfl,hlen]
  ·rw[hlen]
   show cur3.toList.take ((R.length+V.length)*ks.length)=_
   rw[q4];simp[List.flatten_append]
  ·have:w.heap.size=k:=Option.some.inj hk;omega
end Go.Sx
namespace Go.Proofs.Y
open Go Go.Sx Go.Shelf Go.RowKit Go.Lib
set_option maxRecDepth 100000 in
theorem Zyl:Zcs Tryz.prog 247:=by
 intro w b n c i vb vc hi hc hb;go_enter Tryz.func247,Tryz.ntmps247
 go_wp2
 all_goals (go_ret;exact⟨rfl,rfl⟩)
set_option maxRecDepth 100000 in
theorem Z14f:Zim Tryz.prog 247 22:=by
 intro w b n c vb m vc hm hc hb v' w' hrun;have hz1:¬((m:Int)=0):=by omega
 go_enter Tryz.func247,Tryz.ntmps247
 go_wp2_with (at_builtin;refine Lib.wpList_append_run _ rfl _ _ _ _ rfl _ _ rfl rfl _ _ (hrun _) ?_)
 all_goals (go_ret;exact⟨rfl,rfl⟩)
set_option maxRecDepth 100000 in
theorem Zv1:Z90 Tryz.prog 247 276 22 3:=by
 intro w g n c i vb m vc cur1 cur2 hi hm hroom hc63 hov hcp1 hcp2;obtain⟨hz1,hz2,hw1,hw2,hb1,hin,htn,htn2,hb3,-⟩:=insN hi hm (by omega);have hb2:¬(c=i+m):=by omega
 have hb4:¬(c=i):=by omega
 have mixed:Tryz.prog.follows Departure.mixedOrders=true:=by kernel_rfl
 go_enter Tryz.func247,Tryz.ntmps247
 go_wp2_with (simp only[hov])
 go_region_law_o (refine step_copy_runI rfl _ _ 22 22 rfl _ _ (by simp[Act.eval,Act.put]) (by simp[Act.eval,Act.put]) (hcp1 _ _ _) ?_)
 go_wp2_with (at_builtin;refine wpList_copy_runI _ rfl _ _ 22 22 rfl _ _ rfl rfl (hcp2 _ rfl _ _) ?_)
 go_ret
 first|exact⟨rfl,rfl⟩|exact⟨rfl,by rw[setRow_setRow]⟩
set_option maxRecDepth 100000 in
theorem Zym:Zct Tryz.prog 247 95 22 3 3:=by
  intro w g n c i vb m vc G ROW cur2 cur3 hi hm hnc hroom hGn hG63 hrz hcpA hcpB Q hfin;obtain⟨hz1,hz2,hw1,-,hb1,hin,htn,-,-,hb3⟩:=insN hi hm (by omega);have hz3:(c:Int)<(n:Int)+(m:Int):=by omega
  have hGi:¬(G=i):=by omega
  have hGim:¬(G=i+m):=by omega
  have hci:¬(c=i):=by omega
  have mixed:Tryz.prog.follows Departure.mixedOrders=true:=by kernel_rfl
  have hE1:((w.alloc (.cells ROW 95)).drew).heap=(w.drew.alloc (.cells ROW 95)).heap:=rfl;have hF1:(((w.alloc (.cells ROW 95)).drew.setRow w.heap.size cur2).drew).heap=((w.drew.alloc (.cells ROW 95)).setRow w.heap.size cur2).heap:=rfl;go_enter Tryz.func247,Tryz.ntmps247
  go_wp2_with (first
    | (at_builtin;refine Lib.wpList_append_run _ rfl _ _ _ _ rfl _ _ rfl rfl _ _ (hrz _) ?_)
    | (at_builtin;refine wpList_copy_runI _ rfl _ _ 22 22 rfl _ _ rfl rfl (hcpA _ hE1 _ _) ?_)
    | (at_builtin;refine wpList_copy_runI _ rfl _ _ 22 22 rfl _ _ rfl rfl (hcpB _ hF1 _ _ _) ?_))
  go_region_law_o (refine step_copy_runI rfl _ _ 22 22 rfl (.slice (some ⟨w.heap.size,(i+m)*3,none⟩) (n+m - (i+m)) (G - (i+m))) (.slice (some ⟨g,i*3,none⟩) (n - i) (c - i)) (by simp[Act.eval,Act.put]) (by simp[Act.eval,Act.put]) (hcpB _ hF1 3 (G - (i+m)) (c - i)) ?_)
  go_wp2
  exact hfin _ rfl rfl rfl rfl
theorem Zyn(w:World)(s v:Value)(i:Nat)(R V:List (List Value))(hs:owns w s 95 [.str,.str,.int .i64] R)(hv:owns w v 95 [.str,.str,.int .i64] V)(hne:∀k,Z2 s k->Z2 v k->False)(hi:i<=R.length)(hb:(R.length+V.length)*40<=140737488355328) : Calls Tryz.prog 247 #[s,.int .i64 i,v] w λe w'=>∃v',e=.returned v'/\Z9h w w' s v' 95 [.str,.str,.int .i64] (R.take i++V++R.drop i) :=
 Zg0 (K:=3) Tryz.underlying22 Tryz.underlying3 (by kernel_rfl) rfl (by decide) (by decide) (λargs w=>run_callFunc_extern Tryz.func276 (by kernel_rfl) (by kernel_rfl) (by kernel_rfl) (e:=Extern.SlicesOverlaps.overlaps #[22,22] #[4]) (by kernel_rfl) args w) Zyl Z14f Zv1 Zym w s v i R V hs hv hne hi hb
end Go.Proofs.Y
namespace Go.Sx
open Go Go.Shelf Go.RowKit Go.Lib
theorem cutI{P:Program}{τ σ K:Nat}(hu:P.underlying σ=some (.slice τ)){inf:TypeInfo}{z:Value}(hinf:P.info? τ=some inf)(hk:inf.size=K)(hz:inf.zero=some z)(hzs:z.cells.size=K)(hz1c:z.cells.toList.all (λv=>v.oneCell')=true)(hK0:0<K)(w:World)(g n c i j:Nat)(cur:Array Value)(hij:i<j)(hj:j<=n)(hnc:n<=c)(hc63:c<=9223372036854775807) (hg:w.heap[g]?=some (.cells cur τ (0,0))) (hcs:cur.size=c*K) (h1c:∀v∈cur.toList.take (n*K),v.oneCell'=true) : ∃cur1 cur2:Array Value, (∀(a:Addr),(n - j=0\/a=⟨g,j*K,none⟩)->∀ty sc,(Builtin.append_ #[σ,σ] ty #[.slice (some ⟨g,0,none⟩) i c,.slice (some a) (n - j) sc]).run P w.drew=.ok (.slice (some ⟨g,0,none⟩) (i+(n - j)) c) (w.drew.setRow g cur1)) /\ (∀(W:World),W.heap=(w.drew.setRow g cur1).heap->∀ty sc,(Builtin.clear_ #[σ] ty #[.slice (some ⟨g,(i+(n - j))*K,none⟩) (n - (i+(n - j))) sc]).run P W=.ok (.tuple #[]) (W.setRow g cur2)) /\ cur2.size=cur.size/\cur2.toList.take ((i+(n - j))*K)=cur.toList.take (i*K)++(cur.toList.drop (j*K)).take ((n - j)*K):=by
  have p1:=Nat.mul_le_mul_right K hj;have p2:=Nat.mul_le_mul_right K hnc;have p3:=Nat.sub_mul n j K;have p4:=Nat.add_mul i (n - j) K;have p5:=Nat.mul_le_mul_right K (Nat.le_of_lt hij);have p6:=Nat.sub_mul j i K;have hcl:cur.toList.length=c*K:=by rw[Array.length_toList];exact hcs
  obtain⟨cs,hcs1⟩:∃cs,cs=(cur.toList.drop (j*K)).take ((n - j)*K):=⟨_,rfl⟩
  have hl:cs.length=(n - j)*K:=by rw[hcs1];simp only[List.length_take,List.length_drop];omega
  have hone:∀v∈cs,v.oneCell'=true:=λv hv=>h1c v (by
    rw[hcs1]at hv;have e:cur.toList.take (n*K)=cur.toList.take (j*K)++(cur.toList.drop (j*K)).take ((n - j)*K):=by rw[show n*K=j*K+(n - j)*K by omega,List.take_add]
    rw[e];exact List.mem_append_right _ hv)
  have hgd:w.drew.heap[g]?=some (.cells cur τ (0,0)):=hg;obtain⟨cur1,hcur1⟩:∃cur1:Array Value,cur1=(cur.toList.take (i*inf.size)++cs++cur.toList.drop (i*inf.size+cs.length)).toArray:=⟨_,rfl⟩
  obtain⟨zs,hzs1⟩:∃zs:List Value,zs=(Builtin.zeroCells z.cells (n - (i+(n - j)))).toList:=⟨_,rfl⟩
  have hzl:zs.length=(j - i)*K:=by rw[hzs1,Array.length_toList,Z9g,hzs];congr 1;omega
  have hzo:∀v∈zs,v.oneCell'=true:=by intro v hv;rw[hzs1]at hv;exact Zkg (by rw[hzs];exact hK0) (List.all_eq_true.1 hz1c) v hv
  obtain⟨cur2,hcur2⟩:∃cur2:Array Value,cur2=(cur1.toList.take ((i+(n - j))*K)++zs++cur1.toList.drop ((i+(n - j))*K+zs.length)).toArray:=⟨_,rfl⟩
  have hs1:cur1.size=cur.size:=by rw[hcur1,hk];simp only[List.size_toArray,qy11,List.length_take,List.length_drop,hcl,hl];omega
  have hcl1:cur1.toList.length=c*K:=by rw[Array.length_toList,hs1];exact hcs
  have hs2:cur2.size=cur.size:=by rw[hcur2];simp only[List.size_toArray,qy11,List.length_take,List.length_drop,hcl1,hzl];omega
  have ht2:cur2.toList.take ((i+(n - j))*K)=cur.toList.take (i*K)++cs:=by
    rw[hcur2,hcur1,hk];simp only[List.toList_toArray];have e1:(cur.toList.take (i*K)++cs++cur.toList.drop (i*K+cs.length)).take ((i+(n - j))*K)=cur.toList.take (i*K)++cs:=by rw[List.take_append_of_le_length (by simp only[qy11,List.length_take];omega),List.take_of_length_le (by simp only[qy11,List.length_take];omega)]
    rw[List.append_assoc,List.take_append_of_le_length (by rw[e1];simp only[qy11,List.length_take];omega),List.take_take,Nat.min_self,e1]
  have happ:∀(a:Addr),(n - j=0\/a=⟨g,j*K,none⟩)->∀ty sc,(Builtin.append_ #[σ,σ] ty #[.slice (some ⟨g,0,none⟩) i c,.slice (some a) (n - j) sc]).run P w.drew=.ok (.slice (some ⟨g,0,none⟩) (i+(n - j)) c) (w.drew.setRow g cur1):=λa ha ty sc=>by
    rw[hcur1];exact run_append_room (P:=P) w.drew σ ty τ inf hu hinf g i c cur hgd a (n - j) sc cs (by rw[hk];exact hl) (λt v ht=>by
      rcases ha with ha|rfl
      . rw[ha]at hl;rw[List.length_eq_zero_iff.1 (by omega:cs.length=0)]at ht;cases ht
      . rw[hcs1,List.getElem?_take]at ht;split at ht
        . rw[Addr.add_lit];simp only[World.cell?,hgd];simpa using ht
        . cases ht) hone (by omega) (by rw[hk,hl];omega)
  have hclr:∀(W:World),W.heap=(w.drew.setRow g cur1).heap->∀ty sc,(Builtin.clear_ #[σ] ty #[.slice (some ⟨g,(i+(n - j))*K,none⟩) (n - (i+(n - j))) sc]).run P W=.ok (.tuple #[]) (W.setRow g cur2):=λW hW ty sc=>by
    have hgW:W.heap[g]?=some (.cells cur1 τ (0,0)):=by rw[hW];exact setRow_heap _ _ _ _ _ _ hgd
    have hst:=run_storeCells_at P g ((i+(n - j))*K) τ zs 0 cur1 W hgW (by rw[hzl,<- Array.length_toList,hcl1];omega) hzo;simp only[Nat.add_zero]at hst;rw[<- hcur2,hzs1]at hst;obtain⟨r,hr⟩:∃r,n - (i+(n - j))=r+1:=⟨j - i - 1,by omega⟩
    rw[hr]at hst⊢;simp[Builtin.clear_,run_underlying hu,zeroValue,typeInfo,hinf,hz,hst]
  exact⟨cur1,cur2,happ,hclr,hs2,by rw[<- hcs1];exact ht2⟩
def Z14g(P:Program)(f:FuncId)(σ K:Nat):Prop:=∀(w:World) (g n c i j:Nat) (cur1 cur2:Array Value),i<j->j<=n->n<=c->c<=9223372036854775807 ->
  (∀(a:Addr),(n - j=0\/a=⟨g,j*K,none⟩)->∀ty sc,(Builtin.append_ #[σ,σ] ty #[.slice (some ⟨g,0,none⟩) i c,.slice (some a) (n - j) sc]).run P w.drew=.ok (.slice (some ⟨g,0,none⟩) (i+(n - j)) c) (w.drew.setRow g cur1)) ->
  (∀(W:World),W.heap=(w.drew.setRow g cur1).heap->∀ty sc,(Builtin.clear_ #[σ] ty #[.slice (some ⟨g,(i+(n - j))*K,none⟩) (n - (i+(n - j))) sc]).run P W=.ok (.tuple #[]) (W.setRow g cur2)) ->
  Calls P f #[.slice (some ⟨g,0,none⟩) n c,.int .i64 i,.int .i64 j] w λe w'=>e=.returned (.slice (some ⟨g,0,none⟩) (i+(n - j)) c)/\w'=w.drew.setRow g cur2
theorem Zpj{P:Program}{f:FuncId}{τ σ K:Nat}{ks:List Kd}(hu:P.underlying σ=some (.slice τ))(hI:(P.info? τ).bind (λi=>i.zero.map (λz=>(i.size,z.cells.size,z.cells.toList.all (λv=>v.oneCell'))))=some (K,K,true))(hK:K=ks.length)(hK0:0<K)(h1:Z14g P f σ K)(w:World)(s:Value)(i j:Nat)(R:List (List Value))(hs:owns w s τ ks R)(hij:i<j)(hj:j<=R.length) : Calls P f #[s,.int .i64 i,.int .i64 j] w λe w'=>∃v',e=.returned v'/\Z9h w w' s v' τ ks (R.take i++R.drop j):=by
 subst hK;obtain⟨inf,hinf,hI⟩:=Option.bind_eq_some_iff.1 hI;obtain⟨z,hz,hI⟩:=Option.map_eq_some_iff.1 hI;have hk:inf.size=ks.length:=congrArg (·.1) hI;have hzs:z.cells.size=ks.length:=congrArg (·.2.1) hI;have hz1c:z.cells.toList.all (λv=>v.oneCell')=true:=congrArg (·.2.2) hI;obtain⟨hk1,hl1,ho⟩:=hs;have hrl1:∀r∈R,r.length=ks.length:=λr hr=>(hk1 r hr).length;rcases ho with⟨-,hn⟩|⟨g,c,cur,rfl,-,hg,hnc,hcm,hcs,htk⟩
 ·omega
 replace hcs:cur.size=c*ks.length:=hcs;replace htk:cur.toList.take (R.length*ks.length)=R.flatten:=htk;obtain⟨cur1,cur2,a1,a2,q1,q2⟩:=cutI hu hinf hk hz hzs hz1c hK0 w g R.length c i j cur hij hj hnc hcm hg hcs (λv hv=>by rw[htk]at hv;exact Zkf hk1 v hv);refine(h1 w g R.length c i j cur1 cur2 hij hj hnc hcm a1 a2).mono ?_;rintro e w' ⟨rfl,rfl⟩;have hgd:w.drew.heap[g]?=some (.cells cur τ (0,0)):=hg;have t1:cur.toList.take (i*ks.length)=(R.take i).flatten:=by rw[<- Z7b i hrl1,<- htk,List.take_take,Nat.min_eq_left (Nat.mul_le_mul_right _ (by omega))]
 have t2:(cur.toList.drop (j*ks.length)).take ((R.length - j)*ks.length)=(R.drop j).flatten:=by rw[<- Z7c j hrl1,<- htk,List.drop_take,Nat.sub_mul]
 have hrows:∀r∈R.take i++R.drop j,rowOk ks r:=by
  intro r hr;rcases qy13.1 hr with hr|hr
  ·exact hk1 r (List.mem_of_mem_take hr)
  ·exact hk1 r (List.mem_of_mem_drop hr)
 have hlen:(R.take i++R.drop j).length=i+(R.length - j):=by simp;omega
 refine⟨_,rfl,⟨hrows,?_,.inr ⟨g,c,cur2,by rw[hlen],Nat.zero_le _,setRow_heap _ _ _ _ _ _ hgd,by omega,hcm,q1.trans hcs,?_⟩⟩,λk hk=>.inl hk,rfl,rfl,rfl,by rw[setRow_size];exact Nat.le_refl _,λk hk hkr=>setRow_other _ _ _ _ (λe=>hkr (by rw[e];rfl))⟩
 ·exact Zf (λr hr=>(hrows r hr).length)
 ·rw[hlen]
  show cur2.toList.take ((i+(R.length - j))*ks.length)=_
  rw[q2,t1,t2,List.flatten_append]
end Go.Sx
namespace Go.Proofs.Y
open Go Go.Sx Go.Shelf Go.RowKit Go.Lib
set_option maxRecDepth 100000 in
theorem Z195:Z14g Tryz.prog 246 22 3:=by
 intro w g n c i j cur1 cur2 hij hj hnc hc63 happ hclr;have hz1:¬((i:Int)=(j:Int)):=by omega
 have hb1:(0:Int)<=(i:Int):=by omega
 have hw1:¬(c=i+(n - j)):=by omega
 have hj1:(j:Int)<=(n:Int):=by omega
 have hj2:(i:Int)<=(j:Int):=by omega
 have mixed:Tryz.prog.follows Departure.mixedOrders=true:=by kernel_rfl
 have hic:i<=c:=by omega
 by_cases hcj:c=j
 ·obtain rfl:n=c:=by omega
  obtain rfl:n=j:=hcj;have happ0:∀(a:Addr) ty sc,(Builtin.append_ #[22,22] ty #[.slice (some ⟨g,0,none⟩) i n,.slice (some a) 0 sc]).run Tryz.prog w.drew=.ok (.slice (some ⟨g,0,none⟩) i n) (w.drew.setRow g cur1):=λa ty sc=>by have:=happ a (.inl (Nat.sub_self n)) ty sc;rw[Nat.sub_self,Nat.add_zero]at this;exact this
  have hclr0:∀(W:World),W.heap=(w.drew.setRow g cur1).heap->∀ty sc,(Builtin.clear_ #[22] ty #[.slice (some ⟨g,i*3,none⟩) (n - i) sc]).run Tryz.prog W=.ok (.tuple #[]) (W.setRow g cur2):=by rw[Nat.sub_self,Nat.add_zero]at hclr;exact hclr
  have hw2:¬n=i:=by omega
  have hfin0:Ending.returned (.slice (some ⟨g,0,none⟩) i n)=.returned (.slice (some ⟨g,0,none⟩) (i+(n - n)) n):=by rw[Nat.sub_self,Nat.add_zero]
  clear happ hclr;go_enter Tryz.func246,Tryz.ntmps246
  go_wp2
  go_region_law_o (refine Z1h rfl _ _ 22 22 rfl _ _ (by simp[Act.eval,Act.put]) (by simp[Act.eval,Act.put]) (happ0 ⟨g,0,none⟩ _ 0) ?_)
  go_wp2_with (refine Z18 _ rfl _ 22 rfl _ rfl (hclr0 _ rfl _ _) ?_)
  go_ret
  exact⟨hfin0,by rw[setRow_setRow]⟩
 ·go_enter Tryz.func246,Tryz.ntmps246
  go_wp2
  go_region_law_o (refine Z1h rfl _ _ 22 22 rfl _ _ (by simp[Act.eval,Act.put]) (by simp[Act.eval,Act.put]) (happ ⟨g,j*3,none⟩ (.inr rfl) _ (c - j)) ?_)
  go_wp2_with (refine Z18 _ rfl _ 22 rfl _ rfl (hclr _ rfl _ _) ?_)
  go_ret
  exact⟨rfl,by rw[setRow_setRow]⟩
theorem Zyo(w:World)(s:Value)(i j:Nat)(R:List (List Value))(hs:owns w s 95 [.str,.str,.int .i64] R)(hij:i<j)(hj:j<=R.length) : Calls Tryz.prog 246 #[s,.int .i64 i,.int .i64 j] w λe w'=>∃v',e=.returned v'/\Z9h w w' s v' 95 [.str,.str,.int .i64] (R.take i++R.drop j) :=
 Zpj (K:=3) Tryz.underlying22 (by kernel_rfl) rfl (by decide) Z195 w s i j R hs hij hj
end Go.Proofs.Y
namespace Go.Proofs.Y
open Go.Sx
theorem Zyp{v:Value}(hn:(match v with | .slice none _ _=>true|_=>false)=true){w:World}{ks:List Kd}{rows:List (List Value)}(h:reads w v ks rows):rows=[]:=by obtain⟨_,a,cap,rfl,_,h2⟩:=h;refine Classical.byContradiction λhne=>?_;obtain⟨ad,rfl,_⟩:=h2 hne;simp at hn
theorem Zel(w:World)(v:Value)(l:List Kp)(hv:Z5r w v l)(hl:l.length<1000000000):Calls Tryz.prog 77 #[sc1 v] w λe w'=>∃v',e=.returned (sc1 v')/\Zmz w' v' l/\(∀k,Z2 v' k->w.heap.size<=k)/\Mod [] w w':=by
 refine Z1 (Z3 (J:=[.v v,.r (l.map encK)]) sxE_ok Tryz.func77 Z34 rfl rfl (Rel.start2 (by simp[Ent.holds,Ent.wr,hv,X.ev])) rfl rfl ?_) rfl;simp only[QQ,Nat.reduceAdd,qy3,List.nil_append];refine⟨λh w' hr=>?_,λh v1=>⟨by simp only[Int.natCast_zero];omega,λv2 w' hr=>?_⟩⟩
 ·have hn:l=[]:=List.map_eq_nil_iff.1 (Zyp h hv);subst hn;exact⟨_,rfl,hr.at_ 0 rfl,hr.fresh 0 rfl,hr.mod⟩
 ·exact⟨v2,rfl,hr.at_ 0 rfl,hr.fresh 0 rfl,hr.mod⟩
theorem Z1cn(w:World)(s v:Value)(l:List Kp)(x:Kp)(i:Nat)(hs:Zmz w s l)(hv:Zmz w v [x])(hne:∀k,Z2 s k->Z2 v k->False)(hi:i<=l.length)(hl:l.length<1000000) : Calls Tryz.prog 247 #[sc1 s,.int .i64 i,sc1 v] w λe w'=>∃v',e=.returned (sc1 v')/\Zmz w' v' (l.take i++[x]++l.drop i)/\(∀k,Z2 v' k->Z2 s k\/w.heap.size<=k)/\Mod s.ownBlock.toList w w':=by rw[hs.reads.sc1,hv.reads.sc1];refine(Zyn w s v i _ _ hs hv hne (by simpa using hi) (by simp;omega)).mono ?_;rintro e w' ⟨v',rfl,g1,g2,g3⟩;refine⟨v',by rw[g1.reads.sc1],?_,g2,Mod.of_grown g3 λk hk=>.inl (Option.mem_toList.2 hk)⟩;rw[Zmz,List.map_append,List.map_append,List.map_take,List.map_drop];exact g1
theorem Z1co(w:World)(s:Value)(l:List Kp)(i:Nat)(hs:Zmz w s l)(hi:i<l.length) : Calls Tryz.prog 246 #[sc1 s,.int .i64 i,.int .i64 ((i:Int)+1)] w λe w'=>∃v',e=.returned (sc1 v')/\Zmz w' v' (l.take i++l.drop (i+1))/\(∀k,Z2 v' k->Z2 s k\/w.heap.size<=k)/\Mod s.ownBlock.toList w w':=by rw[hs.reads.sc1];have hc:=Zyo w s i (i+1) _ hs (by omega) (by rw[qy3];omega);rw[show((i+1:Nat):Int)=(i:Int)+1 by omega]at hc;refine hc.mono ?_;rintro e w' ⟨v',rfl,g1,g2,g3⟩;refine⟨v',by rw[g1.reads.sc1],?_,g2,Mod.of_grown g3 λk hk=>.inl (Option.mem_toList.2 hk)⟩;rw[Zmz,List.map_append,List.map_take,List.map_drop];exact g1
theorem Z26{J:List V}{g:List Nat}{i:Nat}(hi:i∈g){k:Nat}(h:Z2 (J.getD i (.i 0)).toV k):k∈Zt J g:=List.mem_flatMap.2 ⟨i,hi,by rw[h];simp⟩
def newK(n:Nat)(u:Value):Prop:=∀k,Z2 u k->n<=k
theorem Zkh(n:Nat):newK n (.slice none 0 0):=λk hk=>by simp[Z2,Value.ownBlock]at hk
theorem Zin(w:World):Z5r w (.slice none 0 0) []:=⟨by simp,none,0,rfl,⟨λ_=>rfl,Nat.le_refl _⟩,λh=>absurd rfl h⟩
def gotK(w w':World)(e:Ending)(r:List Kp)(er:Int):Prop:=∃v',e=.returned (.tuple #[sc1 v',.int .i64 er])/\Z5r w' v' r/\newK w.heap.size v'/\Mod [] w w'
def minV(v:Int):Int:=if 16777215<v+1 then 16777215 else v+1
def rawK(l:List Kp)(n p:List UInt8):List Kp×Int :=
 if 200<(p.length:Int)then([],2)
 else if hasK l n=true/\p=[]then(l.take (idx l n)++l.drop (idx l n+1),0)
 else if hasK l n=true then(l.set (idx l n) ((l.getD (idx l n) kD).1,p,minV (l.getD (idx l n) kD).2.2),0)
 else if p=[]then(l,0)
 else if(l.length:Int)=16 then([],2)else(l.take (idx l n)++[((n,p,1):Kp)]++l.drop (idx l n),0)
theorem Z14h(l:List Kp)(n:List UInt8):idx l n<=l.length:=List.length_filter_le _ _
theorem Zcu(R:List Kp)(m:Nat)(x:Kp):(R.map encK).set m [.string ⟨x.1.toArray⟩,.string ⟨x.2.1.toArray⟩,.int .i64 x.2.2]=(R.set m x).map encK:=by rw[List.map_set];rfl
theorem Zyq{R:List Kp}{m:Nat}{x:Kp}(h:m<R.length):(R.set m x).getD m kD=x:=by rw[qy1,List.getElem?_set_self h];rfl
theorem Z1cp(w:World)(v:Value)(l:List Kp)(n p:List UInt8)(hv:Z5r w v l)(hs:chkK l=0):Calls Tryz.prog 213 #[sc1 v,.string ⟨n.toArray⟩,.string ⟨p.toArray⟩] w λe w'=>gotK w w' e (rawK l n p).1 (rawK l n p).2:=by
 obtain⟨k1,k2,k3⟩:=Z17.1 hs;refine Z1 (Z3 (J:=[.v v,.r (l.map encK),.s n,.s p]) sxE_ok Tryz.func213 Zk0 rfl rfl (Rel.start2 (by simp[Ent.holds,Ent.wr,hv,X.ev])) rfl rfl ?_) rfl;simp only[QQ,Nat.reduceAdd,qy3,qy4,gK0,gK1,gK2];refine⟨λh w' hr=>?_,λh w1 hr=>?_⟩
 ·rw[rawK,if_pos h];exact⟨_,rfl,Zin _,Zkh _,hr.mod⟩
 refine(Zel w1 v l (hr.at_ 1 rfl) (by omega)).mono ?_;rintro e w2 ⟨u,rfl,a1,f1,m1⟩;refine⟨[.v u,.r (l.map encK)],rfl,rfl,m1,qy5 _,qy2.2 ⟨⟨a1,λk hk=>.inl (f1 k hk)⟩,qy5 _⟩,Z5,?_⟩;clear hr a1 f1 m1;simp only[QQ,Nat.reduceAdd,qy3,qy4,gK0,gK1,gK2];refine⟨[.i (idx l n),.b (hasK l n)],rfl,λ_ w' hr=>Zyk w' u l n (hr.at_ 0 rfl).reads k3 (by omega),?_⟩;simp only[QQ,Nat.reduceAdd,qy3,qy4,gK0,gK1,gK2];rw[rawK,if_neg h];refine⟨λh1=>?_,λh1=>?_⟩
 ·have hlt:=(of_decide_eq_true h1.1).1;rw[if_pos h1];refine⟨by omega,by omega,λw3 hr=>?_⟩;refine(Z1co w3 u l (idx l n) (hr.at_ 0 rfl) hlt).mono ?_;rintro e w4 ⟨v',rfl,g1,g2,g3⟩;refine⟨[.v v',.r ((l.take (idx l n)++l.drop (idx l n+1)).map encK)],rfl,rfl,g3.mono λk hk=>.inl (by simpa[Zm,Zt,Value.ownBlock]using hk),qy5 _,qy2.2 ⟨⟨g1,λk hk=>?_⟩,qy5 _⟩,Z5,?_⟩
  ·rcases g2 k hk with h2|h2
   ·exact .inr (.inr (Z26 (i:=5) (by simp) h2))
   ·exact .inl h2
  ·intro w5 hr5;exact⟨v',rfl,(hr5.at_ 0 rfl).reads,hr5.fresh 0 rfl,hr5.mod⟩
 rw[if_neg h1];refine⟨λh2=>?_,λh2=>?_⟩
 ·have hlt:=(of_decide_eq_true h2).1;have hm:l.getD (idx l n) kD∈l:=by
   rw[qy1,qy7 hlt];exact List.getElem_mem hlt
  obtain⟨-,-,-,o4,o5⟩:=k2 _ hm;rw[if_pos h2];refine⟨by omega,by omega,by omega,by omega,by simp only[List.length_set,qy3];omega,λw3 hr=>?_⟩;have e1:(l.map encK).set (idx l n) [Value.string ⟨(l.getD (idx l n) kD).1.toArray⟩,Value.string ⟨p.toArray⟩,Value.int .i64 (l.getD (idx l n) kD).2.2]=(l.set (idx l n) ((l.getD (idx l n) kD).1,p,(l.getD (idx l n) kD).2.2)).map encK:=Zcu l (idx l n) ((l.getD (idx l n) kD).1,p,(l.getD (idx l n) kD).2.2);refine⟨u,rfl,?_,hr.fresh 0 rfl,hr.mod⟩;have h0:=(hr.at_ 0 rfl).reads;simp only[QQ,Nat.reduceAdd,qy3,qy4,gK0,gK1,gK2,e1,Zyq hlt]at h0;have e2:((l.set (idx l n) ((l.getD (idx l n) kD).1,p,(l.getD (idx l n) kD).2.2)).map encK).set (idx l n) [Value.string ⟨(l.getD (idx l n) kD).1.toArray⟩,Value.string ⟨p.toArray⟩,Value.int .i64 (minV (l.getD (idx l n) kD).2.2)]=(l.set (idx l n) ((l.getD (idx l n) kD).1,p,minV (l.getD (idx l n) kD).2.2)).map encK:=by have:=Zcu (l.set (idx l n) ((l.getD (idx l n) kD).1,p,(l.getD (idx l n) kD).2.2)) (idx l n) ((l.getD (idx l n) kD).1,p,minV (l.getD (idx l n) kD).2.2);rw[List.set_set]at this;exact this
  rw[Z5r,<- e2];exact h0
 rw[if_neg h2];refine⟨λh3 w3 hr=>?_,λh3=>⟨λh4 w3 hr=>?_,λh4 u2 w3 hr=>?_⟩⟩
 ·rw[if_pos h3];exact⟨u,rfl,(hr.at_ 0 rfl).reads,hr.fresh 0 rfl,hr.mod⟩
 ·rw[if_neg h3,if_pos h4];exact⟨_,rfl,Zin _,Zkh _,hr.mod⟩
 ·rw[if_neg h3,if_neg h4];refine(Z1cn w3 u u2 l (n,p,1) (idx l n) (hr.at_ 1 rfl) (hr.at_ 0 rfl) (λk h5 h6=>hr.sep.disj (i:=1) (j:=0) rfl rfl (by omega) (.inl rfl) (k:=k) h5 h6) (Z14h l n) (by omega)).mono ?_;rintro e w4 ⟨v',rfl,g1,g2,g3⟩;refine⟨[.v v',.r ((l.take (idx l n)++[((n,p,1):Kp)]++l.drop (idx l n)).map encK)],rfl,rfl,g3.mono λk hk=>.inl (by unfold Zm;exact List.mem_append_right _ (Z26 (i:=5) (by simp) (Option.mem_toList.1 hk))),qy5 _,qy2.2 ⟨⟨g1,λk hk=>?_⟩,qy5 _⟩,Z5,?_⟩
  ·rcases g2 k hk with h5|h5
   ·exact .inr (.inr (Z26 (i:=5) (by simp) h5))
   ·exact .inl h5
  ·intro w5 hr5;exact⟨v',rfl,(hr5.at_ 0 rfl).reads,hr5.fresh 0 rfl,hr5.mod⟩
def forF(f:List UInt8)(k:Kp):Bool:=mt (lev f) (lev k.1)
theorem Zki(w:World)(v:Value)(l:List Kp)(n:List UInt8)(hv:Z5r w v l)(hs:Z7a l)(hl:l.length<1000000000):Calls Tryz.prog 45 #[sc1 v,.string ⟨n.toArray⟩] w λe w'=>e=.returned (.int .i64 (if hasK l n=true then(idx l n:Int)else -1))/\Mod [] w w':=by
 have key:∀i,i<l.length->(l.getD i kD).1=n->i=idx l n:=by
  intro i hi he;refine Zs2 (by omega) (λj hj=>?_) (λj hj1 hj2=>?_)
  ·rw[<- he];exact Zek hs hj hi
  ·rw[<- he];by_cases hji:j=i
   ·rw[hji];exact Z3d _
   ·exact Z4p (Zek hs (by omega) hj2)
 refine Z1 (Z3 (J:=[.v v,.r (l.map encK),.s n]) sxE_ok Tryz.func45 Z77 rfl rfl (Rel.start2 (by simp[Ent.holds,Ent.wr,hv,X.ev])) rfl rfl ?_) rfl;simp only[QQ,Nat.reduceAdd,qy3,qy4,gK0,gK1,gK2];refine⟨λvs=>∃(i:Nat) (x:V),vs=[x,.i i]/\i<=l.length/\∀j,j<i->¬(l.getD j kD).1=n,λvs=>l.length - (vs.getD 1 (.i 0)).toI.toNat,⟨0,_,rfl,by omega,λj hj=>by omega⟩,?_⟩;rintro _ - ⟨i,x,rfl,hi,hno⟩;simp only[QQ,Nat.reduceAdd,qy3,qy4,gK0,gK1,gK2];refine⟨λh1=>⟨by omega,λh2 w' hr=>⟨?_,hr.mod⟩,λh2=>⟨by omega,by omega,⟨i+1,x,rfl,by omega,λj hj=>?_⟩,by omega⟩⟩,λh1 w' hr=>⟨?_,hr.mod⟩⟩
 ·have e:=key i (by omega) h2;have:hasK l n=true:=by rw[hasK,<- e];exact decide_eq_true ⟨by omega,h2⟩
  rw[if_pos this,<- e]
 ·by_cases hji:j=i
  ·rw[hji];exact h2
  ·exact hno j (by omega)
 ·have:¬hasK l n=true:=λh=>by
   obtain⟨h3,h4⟩:=of_decide_eq_true h;exact hno (idx l n) (by omega) h4
  rw[if_neg this]
theorem Zv2(w:World)(u v:Value)(a b:List Kp)(hu:Z5r w u a)(hv:Z5r w v b)(hl:a.length<1000000000):Calls Tryz.prog 13 #[sc1 u,sc1 v] w λe w'=>e=.returned (.bool (decide (a=b)))/\Mod [] w w':=by
 refine Z1 (Z3 (J:=[.v u,.r (a.map encK),.v v,.r (b.map encK)]) sxE_ok Tryz.func13 Z60 rfl rfl (Rel.start2 (by simp[Ent.holds,Ent.wr,hu,hv,X.ev])) rfl rfl ?_) rfl;simp only[QQ,Nat.reduceAdd,qy3];refine⟨λh w' hr=>⟨?_,hr.mod⟩,λh=>?_⟩
 ·rw[decide_eq_false];intro e;rw[e]at h;exact h rfl
 ·have hlen:a.length=b.length:=by omega
  refine⟨λvs=>∃(i:Nat) (x:V),vs=[x,.i i]/\i<=a.length/\∀j,j<i->a.getD j kD=b.getD j kD,λvs=>a.length - (vs.getD 1 (.i 0)).toI.toNat,⟨0,_,rfl,by omega,λj hj=>by omega⟩,?_⟩;rintro _ - ⟨i,x,rfl,hi,hall⟩;simp only[QQ,Nat.reduceAdd,qy3,qy4,gK0,gK1,gK2];refine⟨λh7=>⟨by omega,by omega,λh8 w' hr=>⟨?_,hr.mod⟩,λh8=>⟨by omega,by omega,⟨i+1,x,rfl,by omega,λj hj=>?_⟩,by omega⟩⟩,λh7 w' hr=>⟨?_,hr.mod⟩⟩
  ·rw[decide_eq_false];intro e;rw[e]at h8;exact h8 ⟨rfl,rfl,rfl⟩
  ·by_cases hji:j=i
   ·subst hji;have h9:=qy9.1 h8;exact Prod.ext h9.1 (Prod.ext h9.2.1 h9.2.2)
   ·exact hall j (by omega)
  ·rw[decide_eq_true];refine List.ext_getElem? λj=>?_;by_cases hj:j<a.length
   ·have:=hall j (by omega);rw[qy1,qy1,qy7 hj,qy7 (by omega)]at this;rw[qy7 hj,qy7 (by omega)];simpa using this
   ·rw[List.getElem?_eq_none (by omega),List.getElem?_eq_none (by omega)]
theorem Zio(p:Kp->Bool)(l:List Kp)(i:Nat)(h:i<l.length):(l.take (i+1)).filter p=(l.take i).filter p++(if p (l.getD i kD)=true then[l.getD i kD]else[]):=by rw[Z192 l i h,List.filter_append,List.filter_cons,List.filter_nil]
theorem Zkj{R l:List Kp}{j:Nat}(h:R.drop j=l.drop j):R.getD j kD=l.getD j kD:=by
 have e:∀q:List Kp,q.getD j kD=(q.drop j).getD 0 kD:=λq=>by simp[qy1]
 rw[e R,e l,h]
theorem Zyr{R:List Kp}{m:Nat}{x:Kp}(h:m<R.length):(R.set m x).take (m+1)=R.take m++[x]:=by
 rw[List.take_set,Z192 R m h,List.set_append_right _ _ (by simp;omega)];have:m - (R.take m).length=0:=by simp;omega
 rw[this];rfl
theorem Zys{R:List Kp}{m j:Nat}{x:Kp}(h:m<j):(R.set m x).drop j=R.drop j:=by rw[List.drop_set,if_pos h]
def gotL(w w':World)(e:Ending)(r:List Kp):Prop:=∃v',e=.returned (sc1 v')/\Z5r w' v' r/\newK w.heap.size v'/\Mod [] w w'
theorem Z1cq(w:World)(v:Value)(l:List Kp)(f:List UInt8)(hv:Z5r w v l)(hs:Zfz l)(hl:l.length<1000000000)(hf:f.length<4294967281):Calls Tryz.prog 226 #[sc1 v,.string ⟨f.toArray⟩] w λe w'=>gotL w w' e (l.filter (forF f)):=by
 refine Z1 (Z3 (J:=[.v v,.r (l.map encK),.s f]) sxE_ok Tryz.func226 Zjz rfl rfl (Rel.start2 (by simp[Ent.holds,Ent.wr,hv,X.ev])) rfl rfl ?_) rfl;simp only[QQ,Nat.reduceAdd,qy3,qy4,gK0,gK1,gK2];intro b1 w1 hr;refine(Zel w1 v l (hr.at_ 2 rfl) (by omega)).mono ?_;rintro e w2 ⟨u,rfl,a1,f1,m1⟩;refine⟨[.v u,.r (l.map encK)],rfl,rfl,m1,qy5 _,qy2.2 ⟨⟨a1,λk hk=>.inl (f1 k hk)⟩,qy5 _⟩,Z5,?_⟩;clear hr a1 f1 m1;simp only[QQ,Nat.reduceAdd,qy3,qy4,gK0,gK1,gK2];refine⟨λvs=>∃(i:Nat) (x:V),vs=[x,.i i,.s f]/\i<=l.length/\(l.take i).filter (forF f)=l.take i,λvs=>l.length - (vs.getD 1 (.i 0)).toI.toNat,⟨0,_,rfl,by omega,by simp⟩,?_⟩;rintro _ - ⟨i,x,rfl,hi,hall⟩;simp only[QQ,Nat.reduceAdd,qy3,qy4,gK0,gK1,gK2];refine⟨λh1=>⟨by omega,λb2=>?_⟩,λh1 w3 hr=>?_⟩
 ·refine⟨[.b (forF f (l.getD i kD))],rfl,λ_ w' _=>Z18u w' f _ hf (Z8n hs i),?_⟩;simp only[QQ,Nat.reduceAdd,qy3,qy4,gK0,gK1,gK2];have hsn:=Zio (forF f) l i (by omega);refine⟨λh2=>⟨λh3=>absurd h3 (by omega),λh3=>⟨by omega,by omega,?_⟩⟩,λh2=>⟨by omega,by omega,⟨i+1,x,rfl,by omega,?_⟩,by omega⟩⟩
  ·rw[if_neg h2,List.append_nil]at hsn;refine⟨λvs=>∃(m j:Nat) (R:List Kp),vs=[.i m,.i j,.r (R.map encK),.s f]/\R.length=l.length/\m<j/\j<=l.length/\R.take m=(l.take j).filter (forF f)/\R.drop j=l.drop j,λvs=>l.length - (vs.getD 1 (.i 0)).toI.toNat,⟨i,i+1,l,rfl,rfl,by omega,by omega,by rw[hsn,hall],rfl⟩,?_⟩;rintro _ - ⟨m,j,R,rfl,hRl,hmj,hj,htk,hdr⟩;simp only[QQ,Nat.reduceAdd,qy3,qy4,gK0,gK1,gK2];refine⟨λh4=>⟨by omega,λb8 b9=>?_⟩,λh4=>?_⟩
   ·have hsn:=Zio (forF f) l j (by omega);have hRj:=Zkj hdr;have hdr1:R.drop (j+1)=l.drop (j+1):=by rw[<- List.drop_drop,<- List.drop_drop,hdr]
    rw[hRj];refine⟨[.b (forF f (l.getD j kD))],rfl,λ_ w' _=>Z18u w' f _ hf (Z8n hs j),?_⟩;simp only[QQ,Nat.reduceAdd,qy3,qy4,gK0,gK1,gK2,hRj];refine⟨λh5=>?_,λh5=>?_⟩
    ·rw[if_pos h5]at hsn;refine⟨by omega,by omega,by omega,by omega,by omega,by omega,⟨m+1,j+1,R.set m (l.getD j kD),?_,by simpa using hRl,by omega,by omega,?_,?_⟩,by omega⟩
     ·rw[<- Zcu];rfl
     ·rw[Zyr (by omega),htk,hsn]
     ·rw[Zys (by omega),hdr1]
    ·rw[if_neg h5,List.append_nil]at hsn;exact⟨by omega,by omega,⟨m,j+1,R,rfl,hRl,by omega,by omega,by rw[htk,hsn],hdr1⟩,by omega⟩
   ·have:j=l.length:=by omega
    subst this;rw[List.take_length]at htk;refine⟨by omega,by omega,?_,λv9 w5 hr=>?_⟩
    ·simp only[qy11,List.length_take,qy3,List.length_replicate];omega
    ·have e1:(List.take m (List.take m (R.map encK)++List.replicate (R.length - m) [Value.string ⟨[].toArray⟩,.string ⟨[].toArray⟩,.int .i64 0]))=(l.filter (forF f)).map encK:=by
      rw[List.take_append_of_le_length (by simp;omega),List.take_take,Nat.min_self,<- List.map_take,htk]
     have h0:=(hr.at_ 0 rfl).reads;simp only[QQ,Nat.reduceAdd,qy3,qy4,gK0,gK1,gK2]at h0;refine⟨v9,rfl,?_,hr.fresh 0 rfl,hr.mod⟩;rw[Z5r,<- e1];exact h0
  ·have h2:forF f (l.getD i kD)=true:=qy9.1 h2;rw[hsn,hall,if_pos h2,Z192 l i (by omega)]
 ·have:i=l.length:=by omega
  subst this;rw[List.take_length]at hall;rw[hall];exact⟨u,rfl,(hr.at_ 1 rfl).reads,hr.fresh 1 rfl,hr.mod⟩
abbrev Za:List UInt8->List UInt8->Bool:=Op.bytesLess
theorem Zbg(a:List UInt8):Za a []=false:=by cases a<;>rfl
theorem Z14:∀a:List UInt8,Za a a=false
 | []=>rfl
 | a::x=>by simp[Za,Op.bytesLess,Z14 x,UInt8.lt_irrefl]
theorem Zk:∀{a b c:List UInt8},Za a b=true->Za b c=true->Za a c=true
 | _,[],_,h,_=>by rw[Zbg]at h;cases h
 | _,_::_,[],_,h=>by rw[Zbg]at h;cases h
 | [],_::_,_::_,_,_=>rfl
 | a::x,b::y,c::z,h1,h2=>by
  simp only[Za,Op.bytesLess,Bool.or_eq_true,decide_eq_true_eq,Bool.and_eq_true,beq_iff_eq]at h1 h2⊢;rcases h1 with h1|⟨rfl,h1⟩
  ·rcases h2 with h2|⟨rfl,h2⟩
   ·exact .inl (UInt8.lt_trans h1 h2)
   ·exact .inl h1
  ·rcases h2 with h2|⟨rfl,h2⟩
   ·exact .inl h2
   ·exact .inr ⟨rfl,Zk h1 h2⟩
theorem Zbh:∀{a b:List UInt8},Za a b=false->Za b a=false->a=b
 | [],[],_,_=>rfl
 | [],_::_,h,_=>by cases h
 | _::_,[],_,h=>by cases h
 | a::x,b::y,h1,h2=>by
  simp only[Za,Op.bytesLess,Bool.or_eq_false_iff,decide_eq_false_iff_not,Bool.and_eq_false_iff,beq_eq_false_iff_ne]at h1 h2;have hab:a=b:=by
   rcases Nat.lt_trichotomy a.toNat b.toNat with h|h|h
   ·exact absurd (UInt8.lt_iff_toNat_lt.2 h) h1.1
   ·exact UInt8.toNat_inj.1 h
   ·exact absurd (UInt8.lt_iff_toNat_lt.2 h) h2.1
  subst hab;rw[Zbh (h1.2.resolve_left (by simp)) (h2.2.resolve_left (by simp))]
theorem Z4q{a b:List UInt8}(h:Za a b=true):Za b a=false:=by
 cases h2:Za b a with
 | false=>rfl
 | true=>have:=Zk h h2;rw[Z14]at this;cases this
theorem Zem{a b:List UInt8}(h:Za a b=true):a≠b:=by rintro rfl;rw[Z14]at h;cases h
theorem Z3z{a b:List UInt8}:Za a b=false↔(Za b a=true\/b=a):=by
 constructor
 ·intro h;cases h2:Za b a with
  | true=>exact .inl rfl
  | false=>exact .inr (Zbh h2 h)
 ·rintro(h|rfl)
  ·exact Z4q h
  ·exact Z14 _
def Z2d(a b:List UInt8):Int:=if Za a b=true then -1 else if a=b then 0 else 1
theorem Zg1:∀a b:List UInt8,Go.Lib.compareBytes a b=Z2d a b
 | [],[]=>rfl
 | [],_::_=>rfl
 | a::x,[]=>by simp[Z2d,Go.Lib.compareBytes,Zbg]
 | a::x,b::y=>by
  have ih:=Zg1 x y;rw[Go.Lib.compareBytes,ih];unfold Z2d;simp only[Za,Op.bytesLess,Bool.or_eq_true,decide_eq_true_eq,Bool.and_eq_true,beq_iff_eq,List.cons.injEq];by_cases h1:a<b
  ·simp[h1]
  ·by_cases h2:b<a
   ·have hne:a≠b:=by rintro rfl;exact h1 h2
    simp[h1,h2,hne]
   ·have hab:a=b:=by
     rcases Nat.lt_trichotomy a.toNat b.toNat with h|h|h
     ·exact absurd (UInt8.lt_iff_toNat_lt.2 h) h1
     ·exact UInt8.toNat_inj.1 h
     ·exact absurd (UInt8.lt_iff_toNat_lt.2 h) h2
    subst hab;simp[UInt8.lt_irrefl]
theorem Z6h{a b:List UInt8}:Z2d a b<0↔Za a b=true:=by
 unfold Z2d;split
 ·simp[*]
 ·rename_i h;have h:Za a b=false:=by simpa using h
  split<;>simp[h]
theorem Z37{a b:List UInt8}:Z2d a b=0↔a=b:=by
 unfold Z2d;split
 ·rename_i h;simp only[show ¬((-1:Int)=0) by decide,false_iff];exact Zem h
 ·split<;>simp[*]
theorem Z2e(w:World)(a b:List UInt8):Calls Tryz.prog 118 #[.string ⟨a.toArray⟩,.string ⟨b.toArray⟩] w λe w'=>e=.returned (.int .i64 (Z2d a b))/\Mod [] w w':=by refine(Any.strings_Compare Tryz.lays106 ⟨a.toArray⟩ ⟨b.toArray⟩ w).mono ?_;rintro e w' ⟨rfl,rfl⟩;rw[Zg1];exact⟨rfl,Mod.refl _ _⟩
abbrev Wt:=List UInt8×List UInt8×Int
def Zb(k:Wt):List Value:=[.string ⟨k.1.toArray⟩,.string ⟨k.2.1.toArray⟩,.int .i64 k.2.2]
abbrev wD_V:Wt:=([],[],0)
abbrev kW_V:List Kd:=[.str,.str,.int .i64]
theorem Z23(l:List Wt)(i:Nat):Value.gS (((l.map Zb).getD i []).getD 0 undef)=(l.getD i wD_V).1:=by simp only[qy1,List.getElem?_map];cases l[i]?<;>simp[Zb,Value.gS,undef]
theorem Z2f(l:List Wt)(i:Nat):Value.gS (((l.map Zb).getD i []).getD 1 undef)=(l.getD i wD_V).2.1:=by simp only[qy1,List.getElem?_map];cases l[i]?<;>simp[Zb,Value.gS,undef]
theorem Z45(l:List Wt)(i:Nat):Value.gI (((l.map Zb).getD i []).getD 2 undef)=(l.getD i wD_V).2.2:=by simp only[qy1,List.getElem?_map];cases l[i]?<;>rfl
abbrev Z2g(w:World)(v:Value)(l:List Wt):Prop:=reads w v kW_V (l.map Zb)
abbrev Zg2(w:World)(v:Value)(l:List Wt):Prop:=owns w v 107 kW_V (l.map Zb)
theorem Z196(l:List Wt)(i:Nat)(h:i<l.length):l.drop i=l.getD i wD_V::l.drop (i+1):=by rw[List.drop_eq_getElem_cons h,qy1,qy7 h];rfl
theorem Zpk(l:List Wt)(i:Nat)(h:i<l.length):l.take (i+1)=l.take i++[l.getD i wD_V]:=by rw[List.take_add_one,qy1,qy7 h];rfl
theorem memW(l:List Wt)(i:Nat)(h:i<l.length):l.getD i wD_V∈l:=by rw[qy1,qy7 h];exact List.getElem_mem h
def smW(x:Wt):Prop:=x.1.length<1000000000/\x.2.1.length<1000000000
def Z30(l:List Wt):Prop:=∀x∈l,smW x
theorem Za0{l:List Wt}(h:Z30 l)(i:Nat):smW (l.getD i wD_V):=by
 by_cases hi:i<l.length
 ·exact h _ (memW l i hi)
 ·rw[qy1,List.getElem?_eq_none (by omega)];exact⟨by decide,by decide⟩
abbrev Ky:=List UInt8×List UInt8
def ky(x:Wt):Ky:=(x.1,x.2.1)
def ltP(a b:Ky):Bool:=Za a.1 b.1 || (decide (a.1=b.1) && Za a.2 b.2)
theorem Za1{a b:Ky}:ltP a b=true↔Za a.1 b.1=true\/a.1=b.1/\Za a.2 b.2=true:=by simp[ltP]
theorem Zcv(a:Ky):ltP a a=false:=by simp[ltP,Z14]
theorem Z6i{a b c:Ky}(h1:ltP a b=true)(h2:ltP b c=true):ltP a c=true:=by
 rw[Za1]at *;rcases h1 with h1|⟨e1,h1⟩<;>rcases h2 with h2|⟨e2,h2⟩
 ·exact .inl (Zk h1 h2)
 ·exact .inl (by rw[<- e2];exact h1)
 ·exact .inl (by rw[e1];exact h2)
 ·exact .inr ⟨e1.trans e2,Zk h1 h2⟩
theorem Zkk{a b:Ky}(h:ltP a b=true):ltP b a=false:=by
 cases h2:ltP b a with
 | false=>rfl
 | true=>have:=Z6i h h2;rw[Zcv]at this;cases this
theorem Z171{a b:Ky}(h:ltP a b=true):a≠b:=by rintro rfl;rw[Zcv]at h;cases h
theorem Z197{a b:Ky}(h1:ltP a b=false)(h2:ltP b a=false):a=b:=by have e:a.1=b.1:=Zbh (by cases h:Za a.1 b.1 with|false=>rfl|true=>rw[Za1.2 (.inl h)]at h1;cases h1) (by cases h:Za b.1 a.1 with|false=>rfl|true=>rw[Za1.2 (.inl h)]at h2;cases h2);have f:a.2=b.2:=Zbh (by cases h:Za a.2 b.2 with|false=>rfl|true=>rw[Za1.2 (.inr ⟨e,h⟩)]at h1;cases h1) (by cases h:Za b.2 a.2 with|false=>rfl|true=>rw[Za1.2 (.inr ⟨e.symm,h⟩)]at h2;cases h2);exact Prod.ext e f
theorem Zyt{a b:Ky}:ltP a b=false↔(ltP b a=true\/b=a):=by
 constructor
 ·intro h;cases h2:ltP b a with
  | true=>exact .inl rfl
  | false=>exact .inr (Z197 h2 h)
 ·rintro(h|rfl)
  ·exact Zkk h
  ·exact Zcv _
def cmpP(a b:Ky):Int:=if Z2d a.1 b.1=0 then Z2d a.2 b.2 else Z2d a.1 b.1
theorem Zyu{a b:Ky}:cmpP a b<0↔ltP a b=true:=by
 unfold cmpP;rw[Za1];by_cases h:Z2d a.1 b.1=0
 ·rw[if_pos h,Z6h];have e:=Z37.1 h;constructor
  ·exact λh2=>.inr ⟨e,h2⟩
  ·rintro(h2|h2)
   ·exact absurd e (Zem h2)
   ·exact h2.2
 ·rw[if_neg h,Z6h];constructor
  ·exact .inl
  ·rintro(h2|h2)
   ·exact h2
   ·exact absurd (Z37.2 h2.1) h
theorem Zyv{a b:Ky}:cmpP a b=0↔a=b:=by
 unfold cmpP;by_cases h:Z2d a.1 b.1=0
 ·rw[if_pos h,Z37];exact⟨λh2=>Prod.ext (Z37.1 h) h2,λh2=>by rw[h2]⟩
 ·rw[if_neg h];exact⟨λh2=>absurd h2 h,λh2=>absurd (Z37.2 (by rw[h2])) h⟩
theorem Zyw{a b:Ky}:0<=cmpP a b↔ltP a b=false:=by
 have:=@Zyu a b;cases h:ltP a b with
 | true=>rw[h]at this;simp at this⊢;exact this
 | false=>rw[h]at this;simp at this⊢;exact this
def Zbi(l:List Wt):Prop:=l.Pairwise λa b=>ltP (ky a) (ky b)=true
theorem Zs3{l:List Wt}(h:Zbi l){i j:Nat}(hij:i<j)(hj:j<l.length):ltP (ky (l.getD i wD_V)) (ky (l.getD j wD_V))=true:=by rw[Zbi,List.pairwise_iff_getElem]at h;have:=h i j (by omega) hj hij;simpa[qy1,qy7 hj,qy7 (Nat.lt_trans hij hj)]using this
def idxW(l:List Wt)(n:Ky):Nat:=(l.filter λk=>ltP (ky k) n).length
theorem Zyx{l:List Wt}{n:Ky}{i:Nat}(hi:i<=l.length)(h1:∀j,j<i->ltP (ky (l.getD j wD_V)) n=true)(h2:∀j,i<=j->j<l.length->ltP (ky (l.getD j wD_V)) n=false):i=idxW l n:=by
 have e:l=l.take i++l.drop i:=(List.take_append_drop i l).symm;have f1:(l.take i).filter (λk=>ltP (ky k) n)=l.take i:=by
  rw[List.filter_eq_self];intro x hx;obtain⟨j,hj,rfl⟩:=List.mem_iff_getElem.1 hx;have hj':j<i:=by simp at hj;omega
  have:=h1 j hj';rw[List.getElem_take];simpa[qy1,qy7 (show j<l.length by omega)]using this
 have f2:(l.drop i).filter (λk=>ltP (ky k) n)=[]:=by
  rw[List.filter_eq_nil_iff];intro x hx;obtain⟨j,hj,rfl⟩:=List.mem_iff_getElem.1 hx;have hj':i+j<l.length:=by simp at hj;omega
  have:=h2 (i+j) (by omega) hj';rw[List.getElem_drop];simpa[qy1,qy7 hj']using this
 rw[idxW,e,List.filter_append,f1,f2];simp;omega
theorem Z198(l:List Wt)(n:Ky):idxW l n<=l.length:=List.length_filter_le _ _
def hasW(l:List Wt)(n:Ky):Bool:=decide (idxW l n<l.length/\ky (l.getD (idxW l n) wD_V)=n)
theorem Z1f2(i j:Nat)(h:i+j<4000000000):Int.fdiv (IntKind.u64.wrap ((i:Int)+j)) (2 ^ (Nat.min (Int.toNat 1) IntKind.u64.bits))=(((i+j) / 2:Nat):Int):=by
 have e:(2:Int) ^ (Nat.min (Int.toNat 1) IntKind.u64.bits)=2:=by decide
 rw[e,IntKind.wrap_u64,Int.emod_eq_of_lt (by omega) (by omega),Int.fdiv_eq_ediv_of_nonneg _ (by decide)];omega
def loW(l:List Wt)(n:Ky):List Wt:=l.filter λk=>ltP (ky k) n
def miW(l:List Wt)(n:Ky):List Wt:=l.filter λk=>decide (ky k=n)
def hiW(l:List Wt)(n:Ky):List Wt:=l.filter λk=>ltP n (ky k)
theorem Zip{p:Wt->Bool}{l:List Wt}(h:∀x∈l,p x=false):l.filter p=[]:=by rw[List.filter_eq_nil_iff];intro x hx;rw[h x hx];decide
theorem Zyy{p:Wt->Bool}{l:List Wt}(h:∀x∈l,p x=true):l.filter p=l:=List.filter_eq_self.2 h
theorem Zn0:∀(l:List Wt) (n:Ky),Zbi l->l=loW l n++miW l n++hiW l n/\(miW l n).length<=1
 | [],_,_=>by simp[loW,miW,hiW]
 | k::r,n,h=>by
  obtain⟨h1,h2⟩:=List.pairwise_cons.1 h;obtain⟨e,hm⟩:=Zn0 r n h2;cases hk:ltP (ky k) n with
  | true =>
   have a1:loW (k::r) n=k::loW r n:=by simp[loW,hk]
   have a2:miW (k::r) n=miW r n:=by simp[miW,Z171 hk]
   have a3:hiW (k::r) n=hiW r n:=by simp[hiW,Zkk hk]
   rw[a1,a2,a3];exact⟨by rw[List.cons_append,List.cons_append,<- e],hm⟩
  | false =>
   have hgt:∀x∈r,ltP n (ky x)=true:=λx hx=>by
    rcases Zyt.1 hk with h3|h3
    ·exact Z6i h3 (h1 x hx)
    ·rw[h3];exact h1 x hx
   have b1:loW r n=[]:=Zip λx hx=>Zkk (hgt x hx);have b2:miW r n=[]:=Zip λx hx=>decide_eq_false (λe=>by have:=hgt x hx;rw[e,Zcv]at this;cases this);have b3:hiW r n=r:=Zyy hgt;have a1:loW (k::r) n=[]:=by rw[loW,List.filter_cons,hk];exact b1
   rcases Zyt.1 hk with h3|h3
   ·have a2:miW (k::r) n=[]:=by rw[miW,List.filter_cons,decide_eq_false (Z171 h3).symm];exact b2
    have a3:hiW (k::r) n=k::r:=by rw[hiW,List.filter_cons,h3,if_pos rfl];exact congrArg (List.cons k) b3
    rw[a1,a2,a3];simp
   ·have a2:miW (k::r) n=[k]:=by rw[miW,List.filter_cons,decide_eq_true h3.symm,if_pos rfl];exact congrArg (List.cons k) b2
    have a3:hiW (k::r) n=r:=by
     have:ltP n (ky k)=false:=by rw[<- h3];exact Zcv _
     rw[hiW,List.filter_cons,this];exact b3
    rw[a1,a2,a3];simp
theorem Z14i{l:List Wt}{n:Ky}(h:Zbi l):l.take (idxW l n)=loW l n:=by
 have e:=(Zn0 l n h).1
 calc l.take (loW l n).length=(loW l n++miW l n++hiW l n).take (loW l n).length:=by rw[<- e]
  _=loW l n:=by rw[List.append_assoc,List.take_left]
theorem Zs4{l:List Wt}{n:Ky}(h:Zbi l):l.drop (idxW l n)=miW l n++hiW l n:=by
 have e:=(Zn0 l n h).1
 calc l.drop (loW l n).length=(loW l n++miW l n++hiW l n).drop (loW l n).length:=by rw[<- e]
  _=miW l n++hiW l n:=by rw[List.append_assoc,List.drop_left]
theorem Z1cr{l:List Wt}{n:Ky}(h:Zbi l):l.getD (idxW l n) wD_V=(miW l n++hiW l n).getD 0 wD_V:=by rw[<- Zs4 h];simp[qy1]
theorem Z199{l:List Wt}{n:Ky}(h:Zbi l):l.length=idxW l n+(miW l n).length+(hiW l n).length:=by have e:=congrArg List.length (Zn0 l n h).1;rw[qy11,qy11]at e;exact e
theorem Z14j{l:List Wt}{n:Ky}(h:Zbi l):(hasW l n=true/\∃k,miW l n=[k]/\ky k=n)\/(hasW l n=false/\miW l n=[]):=by
 have hl:=Z199 (n:=n) h;have ha:=Z1cr (n:=n) h;have hm:=(Zn0 l n h).2
 match he:miW l n,hm with
 | [],_ =>
  rw[he]at hl ha;refine .inr ⟨?_,rfl⟩;rw[hasW,decide_eq_false];rintro⟨h1,h2⟩;rw[ha]at h2
  match hb:hiW l n with
  | []=>rw[hb]at hl;simp at hl;omega
  | x::r =>
   rw[hb]at h2;have:x∈hiW l n:=by rw[hb];exact qy8 ..
   have h3:=(List.mem_filter.1 this).2;have h2:ky x=n:=h2;rw[h2,Zcv]at h3;cases h3
 | [k],_ =>
  have:k∈miW l n:=by rw[he];exact qy8 ..
  have hk:ky k=n:=by simpa using(List.mem_filter.1 this).2
  rw[he]at hl ha;refine .inl ⟨?_,k,rfl,hk⟩;rw[hasW,decide_eq_true];refine⟨by rw[hl];simp;omega,?_⟩;rw[ha];exact hk
abbrev Rd:=List UInt8×Int
def encY(k:Rd):List Value:=[.string ⟨k.1.toArray⟩,.int .i64 k.2]
abbrev yD:Rd:=([],0)
abbrev kY:List Kd:=[.str,.int .i64]
theorem gY0(l:List Rd)(i:Nat):Value.gS (((l.map encY).getD i []).getD 0 undef)=(l.getD i yD).1:=by simp only[qy1,List.getElem?_map];cases l[i]?<;>simp[encY,Value.gS,undef]
theorem gY1(l:List Rd)(i:Nat):Value.gI (((l.map encY).getD i []).getD 1 undef)=(l.getD i yD).2:=by simp only[qy1,List.getElem?_map];cases l[i]?<;>rfl
abbrev Z19a(w:World)(v:Value)(l:List Rd):Prop:=owns w v 258 kY (l.map encY)
theorem Z1f3(l:List Rd)(i:Nat)(h:i<l.length):l.take (i+1)=l.take i++[l.getD i yD]:=by rw[List.take_add_one,qy1,qy7 h];rfl
theorem memY(l:List Rd)(i:Nat)(h:i<l.length):l.getD i yD∈l:=by rw[qy1,qy7 h];exact List.getElem_mem h
def forW(n:List UInt8)(w:Wt):Bool:=mt (lev w.2.1) (lev n)
def bst(n c:List UInt8):Option Int->List Wt->Option Int
 | o,[]=>o
 | o,w::r=>bst n c (if forW n w=true/\w.1=c then some (max (o.getD 0) w.2.2)else o) r
theorem Ziq(n c:List UInt8):∀(a b:List Wt) (o:Option Int),bst n c o (a++b)=bst n c (bst n c o a) b
 | [],_,_=>rfl
 | _::a,b,_=>Ziq n c a b _
theorem Zbj(n c:List UInt8)(a:List Wt)(w:Wt)(o:Option Int):bst n c o (a++[w])=if forW n w=true/\w.1=c then some (max ((bst n c o a).getD 0) w.2.2)else bst n c o a:=by rw[Ziq];rfl
theorem Zs5{n c:List UInt8}:∀{l:List Wt},(∀w∈l,w.1≠c)->bst n c none l=none
 | [],_=>rfl
 | w::r,h=>by rw[bst,if_neg (λh2=>h w (qy8 ..) h2.2)];exact Zs5 λx hx=>h x (qy10 _ hx)
theorem Zyz{n c:List UInt8}:∀{l:List Wt} {o:Option Int} {q:Int},(∀w∈l,0<=w.2.2)->bst n c o l=some q->o=some q\/∃w∈l,forW n w=true/\w.1=c/\w.2.2=q
 | [],o,q,_,h=>.inl h
 | w::r,o,q,hn,h=>by
  rw[bst]at h;have hn':∀x∈r,0<=x.2.2:=λx hx=>hn x (qy10 _ hx);by_cases h1:forW n w=true/\w.1=c
  ·rw[if_pos h1]at h;rcases Zyz hn' h with h2|⟨x,hx,h2⟩
   ·have h3:=Option.some.inj h2;have h0:=hn w (qy8 ..);cases o with
    | none =>
     simp only[Option.getD_none]at h3;exact .inr ⟨w,qy8 ..,h1.1,h1.2,by omega⟩
    | some y =>
     simp only[Option.getD_some]at h3;by_cases h4:w.2.2<=y
     ·exact .inl (by congr 1;omega)
     ·exact .inr ⟨w,qy8 ..,h1.1,h1.2,by omega⟩
   ·exact .inr ⟨x,qy10 _ hx,h2⟩
  ·rw[if_neg h1]at h;rcases Zyz hn' h with h2|⟨x,hx,h2⟩
   ·exact .inl h2
   ·exact .inr ⟨x,qy10 _ hx,h2⟩
def Zz0(l:List Rd):Prop:=l.Pairwise λa b=>Za a.1 b.1=true
theorem Zir:∀{a b:List Rd},Zz0 a->Zz0 b->(∀x,x∈a↔x∈b)->a=b
 | [],[],_,_,_=>rfl
 | [],y::b,_,_,h=>absurd ((h y).2 (qy8 ..)) (by simp)
 | x::a,[],_,_,h=>absurd ((h x).1 (qy8 ..)) (by simp)
 | x::a,y::b,ha,hb,h=>by
  obtain⟨a1,a2⟩:=List.pairwise_cons.1 ha;obtain⟨b1,b2⟩:=List.pairwise_cons.1 hb;have e:x=y:=by
   rcases List.mem_cons.1 ((h x).1 (qy8 ..))with e|h1
   ·exact e
   ·rcases List.mem_cons.1 ((h y).2 (qy8 ..))with e|h2
    ·exact e.symm
    ·have:=Z4q (b1 x h1);rw[a1 y h2]at this;cases this
  subst e;congr 1
  refine Zir a2 b2 λz=>⟨λhz=>?_,λhz=>?_⟩
  ·rcases List.mem_cons.1 ((h z).1 (qy10 _ hz))with e|h1
   ·have:=a1 z hz;rw[e,Z14]at this;cases this
   ·exact h1
  ·rcases List.mem_cons.1 ((h z).2 (qy10 _ hz))with e|h1
   ·have:=b1 z hz;rw[e,Z14]at this;cases this
   ·exact h1
def addY(out:List Rd)(w:Wt):List Rd :=
 match out.getLast? with
 | none=>[(w.1,max 0 w.2.2)]
 | some x=>if x.1=w.1 then out.dropLast++[(x.1,max x.2 w.2.2)]else out++[(w.1,max 0 w.2.2)]
theorem Zs6(w:Wt):addY [] w=[(w.1,max 0 w.2.2)]:=rfl
theorem Zn1(o:List Rd)(x:Rd)(w:Wt):addY (o++[x]) w=if x.1=w.1 then o++[(x.1,max x.2 w.2.2)]else o++[x]++[(w.1,max 0 w.2.2)]:=by simp[addY]
def rdF(n:List UInt8)(out:List Rd)(l:List Wt):List Rd:=l.foldl (λout w=>if forW n w=true then addY out w else out) out
def rdOf(n:List UInt8)(l:List Wt):List Rd:=rdF n [] l
def okY(n:List UInt8)(out:List Rd)(l:List Wt):Prop:=Zz0 out/\∀c q,(c,q)∈out↔bst n c none l=some q
theorem Z19b{n c:List UInt8}{l:List Wt}{q:Int}(h:bst n c none l=some q):∃w∈l,w.1=c:=by refine Classical.byContradiction λhn=>?_;rw[Zs5 λw hw e=>hn ⟨w,hw,e⟩]at h;cases h
theorem Z14k{n:List UInt8}{out:List Rd}{l:List Wt}(h:okY n out l){w:Wt}(hf:¬forW n w=true):okY n out (l++[w]) :=
 ⟨h.1,λc q=>by rw[Zbj,if_neg (λh2=>hf h2.1)];exact h.2 c q⟩
theorem Z14l{n:List UInt8}{out:List Rd}{l:List Wt}(h:okY n out l){w:Wt}(hs:∀x∈l,x.1=w.1\/Za x.1 w.1=true)(hf:forW n w=true):okY n (addY out w) (l++[w]):=by
 obtain⟨h1,h2⟩:=h;have hle:∀x∈out,x.1=w.1\/Za x.1 w.1=true:=λx hx=>by obtain⟨y,hy,e⟩:=Z19b ((h2 x.1 x.2).1 hx);rw[<- e];exact hs y hy
 have hb:∀c q,bst n c none (l++[w])=some q↔(c=w.1/\q=max ((bst n w.1 none l).getD 0) w.2.2)\/(c≠w.1/\(c,q)∈out):=by
  intro c q;rw[Zbj];by_cases hc:w.1=c
  ·subst hc;rw[if_pos ⟨hf,rfl⟩];constructor
   ·intro e;exact .inl ⟨rfl,(Option.some.inj e).symm⟩
   ·rintro(⟨-,e⟩|⟨e,-⟩)
    ·rw[e]
    ·exact absurd rfl e
  ·rw[if_neg (λh3=>hc h3.2),<- h2 c q];constructor
   ·exact λe=>.inr ⟨λe2=>hc e2.symm,e⟩
   ·rintro(⟨e,-⟩|⟨-,e⟩)
    ·exact absurd e.symm hc
    ·exact e
 have hno:(∀x∈out,x.1≠w.1)->bst n w.1 none l=none:=λh3=>by
  cases h4:bst n w.1 none l with
  | none=>rfl
  | some q=>exact absurd rfl (h3 _ ((h2 _ q).2 h4))
 rcases List.eq_nil_or_concat out with rfl|⟨o,x,rfl⟩
 ·rw[Zs6];refine⟨List.pairwise_singleton _ _,λc q=>?_⟩;rw[hb,hno (by simp)];simp only[qy12,Option.getD_none,List.not_mem_nil,and_false,or_false,Prod.mk.injEq]
 ·rw[List.concat_eq_append]at h1 h2 hle hb hno⊢;rw[Zn1];have ho:∀y∈o,Za y.1 x.1=true:=λy hy=>(List.pairwise_append.1 h1).2.2 y hy x (qy12.2 rfl);have hol:Zz0 o:=(List.pairwise_append.1 h1).1;by_cases hx:x.1=w.1
  ·rw[if_pos hx];have hv:bst n w.1 none l=some x.2:=by rw[<- hx];exact(h2 x.1 x.2).1 (List.mem_append_right _ (qy12.2 rfl))
   refine⟨List.pairwise_append.2 ⟨hol,List.pairwise_singleton _ _,λy hy z hz=>by rw[qy12.1 hz];exact ho y hy⟩,λc q=>?_⟩;rw[hb,hv];simp only[Option.getD_some,qy13,qy12,Prod.mk.injEq,hx];constructor
   ·rintro(h3|h3)
    ·refine .inr ⟨λe=>?_,.inl h3⟩;have:=ho _ h3;rw[e,<- hx,Z14]at this;cases this
    ·exact .inl h3
   ·rintro(h3|⟨h3,h4|h4⟩)
    ·exact .inr h3
    ·exact .inl h4
    ·exact absurd (by have:=congrArg Prod.fst h4;simp only at this;rw[this,hx]) h3
  ·rw[if_neg hx];have hlt:Za x.1 w.1=true:=(hle x (List.mem_append_right _ (qy12.2 rfl))).resolve_left hx;have hall:∀y∈o++[x],Za y.1 w.1=true:=λy hy=>by
    rcases qy13.1 hy with hy|hy
    ·exact Zk (ho y hy) hlt
    ·rw[qy12.1 hy];exact hlt
   refine⟨List.pairwise_append.2 ⟨h1,List.pairwise_singleton _ _,λy hy z hz=>by rw[qy12.1 hz];exact hall y hy⟩,λc q=>?_⟩;rw[hb,hno λy hy=>Zem (hall y hy)];rw[qy13,qy12,Prod.mk.injEq,Option.getD_none];constructor
   ·rintro(h3|h3)
    ·exact .inr ⟨Zem (hall _ h3),h3⟩
    ·exact .inl h3
   ·rintro(h3|h3)
    ·exact .inr h3
    ·exact .inl h3.2
def Z14m(l:List Wt):Prop:=l.Pairwise λa b=>a.1=b.1\/Za a.1 b.1=true
theorem Zis{l:List Wt}(h:Zbi l):Z14m l:=h.imp λ{a b} h2=>by
 rcases Za1.1 h2 with h3|h3
 ·exact .inr h3
 ·exact .inl h3.1
theorem Z172{n:List UInt8}:∀(l d:List Wt) (out:List Rd),Z14m (d++l)->okY n out d->okY n (rdF n out l) (d++l)
 | [],d,out,_,h=>by rw[List.append_nil];exact h
 | w::r,d,out,hr,h=>by
  have e:d++w::r=d++[w]++r:=by simp
  rw[e]at hr⊢;rw[rdF,List.foldl_cons];refine Z172 r (d++[w]) _ hr ?_;have hd:∀x∈d,x.1=w.1\/Za x.1 w.1=true:=λx hx=>(List.pairwise_append.1 (List.pairwise_append.1 hr).1).2.2 x hx w (qy12.2 rfl);by_cases hf:forW n w=true
  ·rw[if_pos hf];exact Z14l h hd hf
  ·rw[if_neg hf];exact Z14k h hf
theorem Zz1{n:List UInt8}{l:List Wt}(h:Z14m l):okY n (rdOf n l) l:=by have:=Z172 (n:=n) l [] [] (by simpa using h) ⟨List.Pairwise.nil,λc q=>by simp[bst]⟩;simpa[rdOf]using this
theorem Zs7(n:List UInt8):∀(l:List Wt) (out:List Rd),(rdF n out l).length<=out.length+l.length
 | [],out=>Nat.le_refl _
 | w::r,out=>by
  have:=Zs7 n r (if forW n w=true then addY out w else out);rw[rdF,List.foldl_cons];refine Nat.le_trans this ?_;have:(if forW n w=true then addY out w else out).length<=out.length+1:=by
   split
   ·rcases List.eq_nil_or_concat out with rfl|⟨o,x,rfl⟩
    ·simp[Zs6]
    ·rw[List.concat_eq_append,Zn1];split<;>simp
   ·omega
  simp only[List.length_cons];omega
open Go Go.Shelf Go.RowKit Go.Lib
set_option maxRecDepth 100000 in
theorem Zz2:Zcs Tryz.prog 256:=by
 intro w b n c i vb vc hi hc hb;go_enter Tryz.func256,Tryz.ntmps256
 go_wp2
 all_goals (go_ret;exact⟨rfl,rfl⟩)
set_option maxRecDepth 100000 in
theorem Z14n:Zim Tryz.prog 256 23:=by
 intro w b n c vb m vc hm hc hb v' w' hrun;have hz1:¬((m:Int)=0):=by omega
 go_enter Tryz.func256,Tryz.ntmps256
 go_wp2_with (at_builtin;refine Lib.wpList_append_run _ rfl _ _ _ _ rfl _ _ rfl rfl _ _ (hrun _) ?_)
 all_goals (go_ret;exact⟨rfl,rfl⟩)
set_option maxRecDepth 100000 in
theorem Zv3:Z90 Tryz.prog 256 282 23 3:=by
 intro w g n c i vb m vc cur1 cur2 hi hm hroom hc63 hov hcp1 hcp2;obtain⟨hz1,hz2,hw1,hw2,hb1,hin,htn,htn2,hb3,-⟩:=insN hi hm (by omega);have hb2:¬(c=i+m):=by omega
 have hb4:¬(c=i):=by omega
 have mixed:Tryz.prog.follows Departure.mixedOrders=true:=by kernel_rfl
 go_enter Tryz.func256,Tryz.ntmps256
 go_wp2_with (simp only[hov])
 go_region_law_o (refine step_copy_runI rfl _ _ 23 23 rfl _ _ (by simp[Act.eval,Act.put]) (by simp[Act.eval,Act.put]) (hcp1 _ _ _) ?_)
 go_wp2_with (at_builtin;refine wpList_copy_runI _ rfl _ _ 23 23 rfl _ _ rfl rfl (hcp2 _ rfl _ _) ?_)
 go_ret
 first|exact⟨rfl,rfl⟩|exact⟨rfl,by rw[setRow_setRow]⟩
set_option maxRecDepth 100000 in
theorem Zz3:Zct Tryz.prog 256 107 23 3 3:=by
  intro w g n c i vb m vc G ROW cur2 cur3 hi hm hnc hroom hGn hG63 hrz hcpA hcpB Q hfin;obtain⟨hz1,hz2,hw1,-,hb1,hin,htn,-,-,hb3⟩:=insN hi hm (by omega);have hz3:(c:Int)<(n:Int)+(m:Int):=by omega
  have hGi:¬(G=i):=by omega
  have hGim:¬(G=i+m):=by omega
  have hci:¬(c=i):=by omega
  have mixed:Tryz.prog.follows Departure.mixedOrders=true:=by kernel_rfl
  have hE1:((w.alloc (.cells ROW 107)).drew).heap=(w.drew.alloc (.cells ROW 107)).heap:=rfl;have hF1:(((w.alloc (.cells ROW 107)).drew.setRow w.heap.size cur2).drew).heap=((w.drew.alloc (.cells ROW 107)).setRow w.heap.size cur2).heap:=rfl;go_enter Tryz.func256,Tryz.ntmps256
  go_wp2_with (first
    | (at_builtin;refine Lib.wpList_append_run _ rfl _ _ _ _ rfl _ _ rfl rfl _ _ (hrz _) ?_)
    | (at_builtin;refine wpList_copy_runI _ rfl _ _ 23 23 rfl _ _ rfl rfl (hcpA _ hE1 _ _) ?_)
    | (at_builtin;refine wpList_copy_runI _ rfl _ _ 23 23 rfl _ _ rfl rfl (hcpB _ hF1 _ _ _) ?_))
  go_region_law_o (refine step_copy_runI rfl _ _ 23 23 rfl (.slice (some ⟨w.heap.size,(i+m)*3,none⟩) (n+m - (i+m)) (G - (i+m))) (.slice (some ⟨g,i*3,none⟩) (n - i) (c - i)) (by simp[Act.eval,Act.put]) (by simp[Act.eval,Act.put]) (hcpB _ hF1 3 (G - (i+m)) (c - i)) ?_)
  go_wp2
  exact hfin _ rfl rfl rfl rfl
theorem Zz4(w:World)(s v:Value)(i:Nat)(R V:List (List Value))(hs:owns w s 107 [.str,.str,.int .i64] R)(hv:owns w v 107 [.str,.str,.int .i64] V)(hne:∀k,Z2 s k->Z2 v k->False)(hi:i<=R.length)(hb:(R.length+V.length)*40<=140737488355328) : Calls Tryz.prog 256 #[s,.int .i64 i,v] w λe w'=>∃v',e=.returned v'/\Z9h w w' s v' 107 [.str,.str,.int .i64] (R.take i++V++R.drop i) :=
 Zg0 (K:=3) Tryz.underlying23 Tryz.underlying3 (by kernel_rfl) rfl (by decide) (by decide) (λargs w=>run_callFunc_extern Tryz.func282 (by kernel_rfl) (by kernel_rfl) (by kernel_rfl) (e:=Extern.SlicesOverlaps.overlaps #[23,23] #[4]) (by kernel_rfl) args w) Zz2 Z14n Zv3 Zz3 w s v i R V hs hv hne hi hb
def pw:Nat->Nat
 | 0=>1
 | k+1=>256*pw k
theorem Zkl{a b:Nat}(h:a<=b):pw a<=pw b:=by
 induction h with
 | refl=>exact Nat.le_refl _
 | step _ ih=>simp only[pw];omega
def numB(k:Nat)(n:Int):List UInt8:=(List.range k).map λj=>UInt8.ofNat (n / pw (k - 1 - j) % 256).toNat
theorem Z1cs(k:Nat):1<=pw k:=Zkl (Nat.zero_le k)
theorem Zpl(n:Int)(s:Nat)(hs:s<64):n.fdiv (2 ^ (Nat.min s IntKind.i64.bits))=n / (2 ^ s:Nat):=by have:Nat.min s IntKind.i64.bits=s:=Nat.min_eq_left (by show s<=64;omega);rw[this,Int.fdiv_eq_ediv_of_nonneg _ (by exact Int.pow_nonneg (by omega))];simp
theorem Zg3(n:Int):IntKind.u8.wrap n=n % 256:=IntKind.wrap_u8 n
theorem Z1ct(N m:Nat):((N:Int) / (pw m:Int)) / 256=(N:Int) / (pw (m+1):Int):=by
 have h:(N / pw m) / 256=N / pw (m+1):=by rw[Nat.div_div_eq_div_mul,Nat.mul_comm];rfl
 rw[<- Int.natCast_ediv,<- Int.natCast_ediv,<- h];rfl
theorem Zkm(w:World)(n:Int)(k:Nat)(hk:k<=8)(h0:0<=n)(h1:n<=9223372036854775807) : Calls Tryz.prog 101 #[.int .i64 n,.int .i64 k] w λe w'=>e=.returned (.string ⟨(numB k n).toArray⟩)/\Mod [] w w':=by
 refine Z1 (Z7 (J:=[.i n,.i k]) sxE_ok Tryz.func101 Zfj rfl rfl rfl ?_) rfl;simp only[QQ,Nat.reduceAdd];refine⟨λvs=>∃(m:Nat) (v:Value),vs=[.i (n / pw m),.v v,.r ((List.range m).map λj=>[.int .u8 (n / pw j % 256)]),.i m]/\m<=k,λvs=>(k - (vs.getD 3 (.i 0)).toI).toNat,⟨0,.slice none 0 0,by simp[pw],by omega⟩,?_⟩;rintro _ - ⟨m,v,rfl,hm⟩;simp only[QQ,Nat.reduceAdd];refine⟨λh=>?_,λh=>?_⟩
 ·intro v1;refine⟨by simp;omega,λv2=>⟨by omega,by omega,⟨m+1,v2,?_,by omega⟩,by omega⟩⟩;have e1:(n / pw m) / 256=n / pw (m+1):=by
   obtain⟨N,rfl⟩:=Int.eq_ofNat_of_zero_le h0;exact Z1ct N m
  have e2:Int.toNat 8=8:=rfl;simp only[List.range_succ,List.map_append,List.map_cons,List.map_nil,List.cons.injEq,V.i.injEq,V.v.injEq,V.r.injEq,and_true,Zg3,e2,Zpl _ 8 (by omega),Nat.reducePow,true_and];exact⟨e1,by omega⟩
 ·have hmk:m=k:=by omega
  subst hmk;have hl:((List.range m).map λj=>[Value.int .u8 (n / pw j % 256)]).length=m:=by simp
  refine⟨by omega,by omega,λvs=>∃(i:Nat) (h:Nat->Int),vs=[.i i,.i ((m:Int) - 1 - i),.r ((List.range m).map λx=>[.int .u8 (h x)])]/\2*i<=m+1/\∀x,x<m->h x=if x<i\/m - 1<x+i then n / pw (m - 1 - x) % 256 else n / pw x % 256,
   λvs=>((vs.getD 1 (.i 0)).toI+1 - (vs.getD 0 (.i 0)).toI).toNat,⟨0,λx=>n / pw x % 256,by simp,by omega,λx hx=>by rw[if_neg (by omega)]⟩,?_⟩
  rintro _ - ⟨i,h,rfl,hi,hh⟩;simp only[QQ,Nat.reduceAdd];refine⟨λhc=>?_,λhc=>?_⟩
  ·obtain⟨j,hj⟩:∃j:Nat,(m:Int) - 1 - i=j:=⟨m - 1 - i,by omega⟩
   rw[hj]at hc⊢;have hjm:j<m:=by omega
   have him:i<m:=by omega
   have hget:∀x:Nat,x<m->((List.range m).map λx=>[Value.int .u8 (h x)]).getD x []=[Value.int .u8 (h x)]:=λx hx=>by simp[qy1,List.getElem?_map,List.getElem?_range hx]
   have q1:((j:Nat):Int)<(m:Int):=by omega
   have q2:((i:Nat):Int)<(m:Int):=by omega
   have q3:(0:Int)<=(i:Int):=by omega
   have q4:(0:Int)<=(j:Int):=by omega
   have q5:(-9223372036854775808:Int)<=(i:Int)+1:=by omega
   have q6:(i:Int)+1<=9223372036854775807:=by omega
   have q7:(-9223372036854775808:Int)<=(j:Int) - 1:=by omega
   have q8:(j:Int) - 1<=9223372036854775807:=by omega
   simp only[List.length_set,qy3,List.length_range,qy4,q1,q2,q3,q4,q5,q6,q7,q8,true_and,and_self,hget i him,hget j hjm,List.getD_cons_zero,Value.gI];have hset:(((List.range m).map λx=>[Value.int .u8 (h x)]).set i [Value.int .u8 (h j)]).set j [Value.int .u8 (h i)]=(List.range m).map λx=>[Value.int .u8 (if x=j then h i else if x=i then h j else h x)]:=by
    apply List.ext_getElem?;intro x;simp only[List.getElem?_set,List.getElem?_map,List.length_set,qy3,List.length_range];by_cases hx:x<m
    ·rw[List.getElem?_range hx];by_cases h1:j=x
     ·subst h1;simp[hx]
     ·by_cases h2:i=x
      ·subst h2;simp[hx,h1,Ne.symm h1]
      ·simp[h1,h2,Ne.symm h1,Ne.symm h2]
    ·rw[List.getElem?_eq_none (by simp;omega)];have h1:¬j=x:=by omega
     have h2:¬i=x:=by omega
     simp[h1,h2]
   refine⟨⟨i+1,λx=>if x=j then h i else if x=i then h j else h x,?_,by omega,?_⟩,by omega⟩
   ·rw[hset];simp only[List.cons.injEq,V.i.injEq,and_true,true_and];omega
   ·intro x hx;have a1:=hh i him;have a2:=hh j hjm;rw[if_neg (by omega)]at a1 a2
    show(if x=j then h i else if x=i then h j else h x)=_
    by_cases h1:x=j
    ·subst h1;rw[if_pos rfl,if_pos (by omega),a1];congr 3;congr 2;omega
    ·rw[if_neg h1];by_cases h2:x=i
     ·subst h2;rw[if_pos rfl,if_pos (by omega),a2];congr 3;congr 2;omega
     ·rw[if_neg h2,hh x hx];by_cases h3:x<i\/m - 1<x+i
      ·rw[if_pos h3,if_pos (by omega)]
      ·rw[if_neg h3,if_neg (by omega)]
  ·intro w' hr;refine⟨?_,hr.mod⟩;congr 3
   simp only[numB,List.map_map];refine congrArg List.toArray (List.map_congr_left λx hx=>?_);have hx:x<m:=by simpa using hx
   simp only[Function.comp,List.getD_cons_zero,Value.gI,hh x hx];by_cases h3:x<i\/m - 1<x+i
   ·rw[if_pos h3]
   ·rw[if_neg h3];have:m - 1 - x=x:=by omega
    rw[this]
theorem Z40(x:Nat)(h:x<2 ^ 63):(BitVec.ofInt 64 (x:Int)).toNat=x:=by simp[BitVec.toNat_ofInt];omega
theorem Zbk(x:Nat)(h:x<2 ^ 63):IntKind.i64.wrap (x:Int)=x:=by rw[IntKind.wrap_i64];omega
theorem Z1cu(x:Nat)(h:x<2 ^ 63):Z1v .and .i64 (x:Int) 127=(x % 128:Nat):=by
 have h127:(127:Int)=((127:Nat):Int):=rfl;simp only[Z1v,h127]
 show IntKind.i64.wrap (((BitVec.ofInt 64 (x:Int)) &&& (BitVec.ofInt 64 ((127:Nat):Int))).toNat:Int)=_
 rw[BitVec.toNat_and,Z40 x h,Z40 127 (by omega)];have e:x &&& 127=x % 128:=Nat.and_two_pow_sub_one_eq_mod x 7;rw[e,Zbk _ (by omega)]
theorem Z1f4(x:Nat)(h:x<128):Z1v .or .i64 (x:Int) 128=(x+128:Nat):=by
 have h128:(128:Int)=((128:Nat):Int):=rfl;simp only[Z1v,h128]
 show IntKind.i64.wrap (((BitVec.ofInt 64 (x:Int)) ||| (BitVec.ofInt 64 ((128:Nat):Int))).toNat:Int)=_
 rw[BitVec.toNat_or,Z40 x (by omega),Z40 128 (by omega)];have e:x ||| 128=x+128:=by have:=Nat.two_pow_add_eq_or_of_lt (i:=7) (b:=x) (by omega) 1;rw[Nat.or_comm];simp only[Nat.mul_one]at this;rw[show(128:Nat)=2 ^ 7 from rfl,<- this];omega
 rw[e,Zbk _ (by omega)]
def pL:Nat->Nat
 | 0=>128
 | f+1=>128*pL f
def lngB:Nat->Nat->List UInt8
 | 0,n=>[UInt8.ofNat n]
 | f+1,n=>if n<128 then[UInt8.ofNat n]else UInt8.ofNat (n % 128+128)::lngB f (n / 128)
theorem Zv4(f n:Nat)(h:n<128):lngB f n=[UInt8.ofNat n]:=by cases f<;>simp[lngB,h]
theorem Zs8:∀f n,(lngB f n).length<=f+1
 | 0,n=>by simp[lngB]
 | f+1,n=>by have:=Zs8 f (n / 128);simp only[lngB];split<;>simp<;>omega
theorem Zz5{a b:Nat}(h:a<=b):pL a<=pL b:=by
 induction h with
 | refl=>exact Nat.le_refl _
 | step _ ih=>simp only[pL];omega
def rowB(r:List Value):UInt8:=UInt8.ofNat (Value.gI (r.getD 0 undef)).toNat
theorem Zpm(w:World)(F n:Nat)(hF:F<=7)(hn:n<pL F):Calls Tryz.prog 103 #[.int .i64 n] w λe w'=>e=.returned (.string ⟨(lngB F n).toArray⟩)/\Mod [] w w':=by
 refine Z1 (Z7 (J:=[.i n]) sxE_ok Tryz.func103 Z9u rfl rfl rfl ?_) rfl;simp only[QQ,Nat.reduceAdd];have hp:pL F<=72057594037927936:=Zz5 (show F<=7 from hF);refine⟨λvs=>∃(x f:Nat) (v:Value) (rows:List (List Value)),vs=[.i x,.v v,.r rows]/\x<pL f/\f<=F/\rows.length+f=F/\rows.map rowB++lngB f x=lngB F n,λvs=>((vs.getD 0 (.i 0)).toI).toNat,⟨n,F,_,[],rfl,hn,Nat.le_refl _,by simp,by simp⟩,?_⟩;rintro _ - ⟨x,f,v,rows,rfl,hx,hf,hrl,hrows⟩;have hpf:pL f<=72057594037927936:=Zz5 (show f<=7 by omega);simp only[QQ,Nat.reduceAdd];refine⟨λh v1=>?_,λh v1=>?_⟩
 ·cases f with
  | zero=>have:x<128:=hx;omega
  | succ f =>
   have hx:x<128*pL f:=hx;have e1:(x:Int).fdiv (2 ^ (Nat.min (Int.toNat 7) IntKind.i64.bits))=(x / 128:Nat):=by rw[Zpl _ _ (by decide)];rfl
   simp only[e1];refine⟨by simp;omega,λv2=>⟨⟨x / 128,f,v2,_,rfl,by omega,by omega,?_,?_⟩,by omega⟩⟩
   ·simp;omega
   ·rw[List.map_append,List.append_assoc,<- hrows];congr 1
    simp only[List.map_cons,List.map_nil,rowB,List.getD_cons_zero,Value.gI,Z1cu x (by omega),Z1f4 (x % 128) (by omega),Zg3];have e:(((x % 128+128:Nat):Int) % 256).toNat=x % 128+128:=by omega
    rw[e];simp only[lngB,if_neg (show ¬x<128 by omega),List.cons_append,List.nil_append]
 ·refine⟨by simp;omega,λv2 w' hr=>⟨?_,hr.mod⟩⟩;rw[<- hrows,Zv4 _ _ (by omega)];have e:((x:Int) % 256).toNat=x:=by omega
  simp only[List.map_append,List.map_cons,List.map_nil,List.getD_cons_zero,Value.gI,Zg3,e];rfl
