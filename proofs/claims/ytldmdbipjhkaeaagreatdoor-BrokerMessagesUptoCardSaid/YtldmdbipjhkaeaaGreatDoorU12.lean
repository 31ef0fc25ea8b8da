/- By an AI agent. -/
import Derived.Test.YtldmdbipjhkaeaaGreatDoorU11
import Derived.Test.YtldmdbipjhkaeaaGreatDoorU08
import Derived.Test.YtldmdbipjhkaeaaGreatDoorU05
import Derived.Test.YtldmdbipjhkaeaaGreatDoorU09
import Derived.Test.YtldmdbipjhkaeaaGreatDoorU10
import Derived.Test.YtldmdbipjhkaeaaGreatDoorU06
import Derived.Shelf.Strings.Search3
import Derived.Shelf.Strings.Trim
import Derived.Shelf.Strings.OnBuilder
import Derived.Test.YtldmdbipjhkaeaaGreatDoorProg
import Derived.Shelf.RegionOpenPlain
import Derived.Lib.Strings
import Derived.Lib.Slices
import Derived.Lib.Walk
import Derived.Lib.Builder
import Derived.Lib.AppendStr
import Derived.Lib.UnsafeStr
import Derived.WalkKit
set_option linter.all false
set_option maxHeartbeats 20000000
namespace Go.Proofs.Y
open Go.Sx
abbrev Opt:=Int×List UInt8
def encO(o:Opt):List Value:=[.int .i64 o.1,.string ⟨o.2.toArray⟩]
abbrev oD:Opt:=(0,[])
theorem Z17(os:List Opt)(i:Nat):Value.gI (((os.map encO).getD i []).getD 0 undef)=(os.getD i oD).1:=by simp only[qy1,List.getElem?_map];cases os[i]?<;>rfl
theorem Z18(os:List Opt)(i:Nat):Value.gS (((os.map encO).getD i []).getD 1 undef)=(os.getD i oD).2:=by simp only[qy1,List.getElem?_map];cases os[i]?<;>simp[encO,Value.gS,undef]
theorem Z12x(os:List Opt)(i:Nat)(h:i<os.length):os.drop i=os.getD i oD::os.drop (i+1):=by rw[List.drop_eq_getElem_cons h,qy1,qy7 h];rfl
structure Msg where
 kind:Int
 code:Int
 id:Int
 tok:List UInt8
 opts:List Opt
 pay:List UInt8
abbrev mNil:Msg:=⟨0,0,0,[],[],[]⟩
def mV(m:Msg)(v:Value):Value:=.agg #[.int .i64 m.kind,.int .i64 m.code,.int .i64 m.id,.string ⟨m.tok.toArray⟩,v,.string ⟨m.pay.toArray⟩]
abbrev Z2d(w:World)(v:Value)(os:List Opt):Prop:=reads w v [.int .i64,.str] (os.map encO)
def optE:Int->List Opt->Int
 | _,[]=>0
 | was,o::l=>if 0<=o.1/\o.1<=65535 then(if o.1<was then 4 else if 60<(o.2.length:Int)then 2 else optE o.1 l)else 3
def chk(m:Msg):Int :=
 if 0<=m.kind/\m.kind<=3 then
  if 0<=m.code/\m.code<=255/\0<=m.id/\m.id<=65535 then
   if 8<(m.tok.length:Int)\/12<(m.opts.length:Int)\/200<(m.pay.length:Int)then 2
   else if optE 0 m.opts≠0 then optE 0 m.opts
   else if m.code=0/\(m.tok≠[]\/m.pay≠[]\/m.opts≠[])then 1 else 0
  else 3
 else 7
theorem Zoc{m:Msg}(h:¬(0<=m.kind/\m.kind<=3)):chk m=7:=if_neg h
theorem Zey{m:Msg}(h:0<=m.kind/\m.kind<=3)(h1:¬(0<=m.code/\m.code<=255/\0<=m.id/\m.id<=65535)):chk m=3:=by rw[chk,if_pos h,if_neg h1]
theorem Zod{m:Msg}(h:0<=m.kind/\m.kind<=3)(h1:0<=m.code/\m.code<=255/\0<=m.id/\m.id<=65535)(h2:8<(m.tok.length:Int)\/12<(m.opts.length:Int)\/200<(m.pay.length:Int)):chk m=2:=by rw[chk,if_pos h,if_pos h1,if_pos h2]
theorem Zoe{m:Msg}(h:0<=m.kind/\m.kind<=3)(h1:0<=m.code/\m.code<=255/\0<=m.id/\m.id<=65535)(h2:¬(8<(m.tok.length:Int)\/12<(m.opts.length:Int)\/200<(m.pay.length:Int))) : chk m=if optE 0 m.opts≠0 then optE 0 m.opts else if m.code=0/\(m.tok≠[]\/m.pay≠[]\/m.opts≠[])then 1 else 0:=by rw[chk,if_pos h,if_pos h1,if_neg h2]
theorem Z7x{m:Msg}:chk m=0↔(0<=m.kind/\m.kind<=3)/\(0<=m.code/\m.code<=255/\0<=m.id/\m.id<=65535)/\(m.tok.length<=8/\m.opts.length<=12/\m.pay.length<=200)/\optE 0 m.opts=0/\(m.code=0->m.tok=[]/\m.pay=[]/\m.opts=[]):=by
 unfold chk;constructor
 ·intro h;split at h
  ·split at h
   ·split at h
    ·exact absurd h (by decide)
    ·split at h
     ·contradiction
     ·split at h
      ·exact absurd h (by decide)
      ·rename_i h1 h2 h3 h4 h5;exact⟨h1,h2,by omega,qy9.1 h4,λh6=>⟨Classical.byContradiction λh7=>h5 ⟨h6,.inl h7⟩,Classical.byContradiction λh7=>h5 ⟨h6,.inr (.inl h7)⟩,Classical.byContradiction λh7=>h5 ⟨h6,.inr (.inr h7)⟩⟩⟩
   ·exact absurd h (by decide)
  ·exact absurd h (by decide)
 ·rintro⟨h1,h2,h3,h4,h5⟩;rw[if_pos h1,if_pos h2,if_neg (by omega),if_neg (λh=>h h4),if_neg];rintro⟨h6,h7⟩;obtain⟨a,b,c⟩:=h5 h6;rcases h7 with h|h|h
  ·exact h a
  ·exact h b
  ·exact h c
theorem Zdf(w:World)(n a b:Int):Calls Tryz.prog 137 #[.int .i64 n,.int .i64 a,.int .i64 b] w λe w'=>e=.returned (.bool (decide (a<=n/\n<=b)))/\Mod [] w w':=by refine Z1 (Z8 (J:=[.i n,.i a,.i b]) sxE_ok Tryz.func137 Z91 rfl rfl rfl ?_) rfl;simp only[Tree.goal,X.P,X.ev,SV.ev,CV.ev,Sc.ev,qz,QA,QB,QC,QD,QE,QF,QG,QH,QI,QJ,QK,QL,QM,Nat.reduceAdd];exact λw' hr=>⟨by simp,hr.mod⟩
theorem Zu7(w:World)(v:Value)(os:List Opt)(hv:Z2d w v os)(hl:os.length<1099511627776):Calls Tryz.prog 138 #[sc1 v] w λe w'=>e=.returned (.int .i64 (optE 0 os))/\Mod [] w w':=by
 refine Z1 (Z3 (J:=[.v v,.r (os.map encO)]) sxE_ok Tryz.func138 Z8k rfl rfl (Rel.start2 (by simp[Ent.holds,Ent.wr,hv,X.ev])) rfl rfl ?_) rfl;simp only[Tree.goal,X.P,X.ev,SV.ev,CV.ev,Sc.ev,qz,QA,QB,QC,QD,QE,QF,QG,QH,QI,QJ,QK,QL,QM,Nat.reduceAdd,qy3];refine⟨λvs=>∃(i:Nat) (x:V) (was:Int),vs=[x,.i was,.i i]/\i<=os.length/\optE was (os.drop i)=optE 0 os,λvs=>(os.length - (vs.getD 2 (.i 0)).toI).toNat,⟨0,_,0,rfl,by omega,rfl⟩,?_⟩;rintro _ - ⟨i,x,was,rfl,hi,hg⟩;simp only[Tree.goal,X.P,X.ev,SV.ev,CV.ev,Sc.ev,qz,QA,QB,QC,QD,QE,QF,QG,QH,QI,QJ,QK,QL,QM,Nat.reduceAdd,qy3,qy4,Z17,Z18];refine⟨λh1=>?_,λh1 w' hr=>⟨?_,hr.mod⟩⟩
 ·rw[Z12x os i (by omega)]at hg;generalize os.getD i oD=o at hg⊢
  (repeat refine⟨by omega,?_⟩)
  intro b;refine⟨[.b (decide (0<=o.1/\o.1<=65535))],rfl,λ_ w' _=>Zdf w' _ _ _,?_⟩;simp only[Tree.goal,X.P,X.ev,SV.ev,CV.ev,Sc.ev,qz,QA,QB,QC,QD,QE,QF,QG,QH,QI,QJ,QK,QL,QM,Nat.reduceAdd,decide_eq_true_eq];simp only[optE]at hg;refine⟨λh2 w' hr=>⟨by rw[<- hg,if_neg h2],hr.mod⟩,λh2=>?_⟩;rw[if_pos (qy9.1 h2)]at hg;refine⟨λh3 w' hr=>⟨by rw[<- hg,if_pos h3],hr.mod⟩,λh3=>?_⟩;rw[if_neg h3]at hg;refine⟨λh4 w' hr=>⟨by rw[<- hg,if_pos h4],hr.mod⟩,λh4=>?_⟩;rw[if_neg h4]at hg;exact⟨by omega,by omega,⟨i+1,_,o.1,rfl,by omega,hg⟩,by omega⟩
 ·have:i=os.length:=by omega
  subst this;rw[List.drop_length]at hg;rw[<- hg];rfl
theorem Z12y(w:World)(m:Msg)(v:Value)(hv:Z2d w v m.opts)(hl:m.opts.length<1099511627776)(ht:m.tok.length<1099511627776)(hp:m.pay.length<1099511627776) : Calls Tryz.prog 72 #[mV m (sc1 v)] w λe w'=>e=.returned (.int .i64 (chk m))/\Mod [] w w':=by
 refine Z1 (Z3 (J:=[.i m.kind,.i m.code,.i m.id,.s m.tok,.v v,.r (m.opts.map encO),.s m.pay]) sxE_ok Tryz.func72 Z9w rfl rfl (Rel.start2 (by simp[Ent.holds,Ent.wr,hv,X.ev])) rfl rfl ?_) rfl;simp only[Tree.goal,X.P,X.ev,SV.ev,CV.ev,Sc.ev,qz,QA,QB,QC,QD,QE,QF,QG,QH,QI,QJ,QK,QL,QM,Nat.reduceAdd,qy3];intro b;refine⟨[.b (decide (0<=m.kind/\m.kind<=3))],rfl,λ_ w' _=>Zdf w' _ _ _,?_⟩;simp only[Tree.goal,X.P,X.ev,SV.ev,CV.ev,Sc.ev,qz,QA,QB,QC,QD,QE,QF,QG,QH,QI,QJ,QK,QL,QM,Nat.reduceAdd,decide_eq_true_eq,qy3];refine⟨λh w' hr=>⟨by rw[Zoc h],hr.mod⟩,λh=>?_⟩;replace h:=qy9.1 h;refine⟨[.b (decide (0<=m.code/\m.code<=255))],rfl,λ_ w' _=>Zdf w' _ _ _,?_⟩;simp only[Tree.goal,X.P,X.ev,SV.ev,CV.ev,Sc.ev,qz,QA,QB,QC,QD,QE,QF,QG,QH,QI,QJ,QK,QL,QM,Nat.reduceAdd,decide_eq_true_eq,qy3];refine⟨[.b (decide (0<=m.id/\m.id<=65535))],rfl,λ_ w' _=>Zdf w' _ _ _,?_⟩;simp only[Tree.goal,X.P,X.ev,SV.ev,CV.ev,Sc.ev,qz,QA,QB,QC,QD,QE,QF,QG,QH,QI,QJ,QK,QL,QM,Nat.reduceAdd,decide_eq_true_eq,qy3];refine⟨λh1 w' hr=>⟨by rw[Zey h (by omega)],hr.mod⟩,λh1=>?_⟩;refine⟨λh2 w' hr=>⟨by rw[Zod h (by omega) (by omega)],hr.mod⟩,λh2=>?_⟩;rw[Zoe h (by omega) (by omega)];refine⟨[.i (optE 0 m.opts)],rfl,λ_ w' hr=>Zu7 w' v m.opts (hr.at_ 1 rfl) hl,?_⟩;simp only[Tree.goal,X.P,X.ev,SV.ev,CV.ev,Sc.ev,qz,QA,QB,QC,QD,QE,QF,QG,QH,QI,QJ,QK,QL,QM,Nat.reduceAdd,decide_eq_true_eq,qy3];refine⟨λh3 w' hr=>⟨by rw[if_pos h3],hr.mod⟩,λh3=>?_⟩;rw[if_neg h3];refine⟨by omega,λh4 w' hr=>⟨?_,hr.mod⟩,λh4 w' hr=>⟨?_,hr.mod⟩⟩
 ·rw[if_pos];rcases h4 with⟨h5,h6⟩|⟨h5,h6⟩
  ·refine⟨h5,?_⟩;simp only[List.append_eq_nil_iff]at h6;by_cases h7:m.tok=[]
   ·exact .inr (.inl λh8=>h6 ⟨h7,h8⟩)
   ·exact .inl h7
  ·exact⟨h5,.inr (.inr (by intro h8;rw[h8]at h6;simp at h6))⟩
 ·rw[if_neg];rintro⟨h5,h6⟩;apply h4;rcases h6 with h6|h6|h6
  ·exact .inl ⟨h5,λh=>h6 (List.append_eq_nil_iff.1 h).1⟩
  ·exact .inl ⟨h5,λh=>h6 (List.append_eq_nil_iff.1 h).2⟩
  ·exact .inr ⟨h5,by have:=List.length_pos_iff.2 h6;omega⟩
theorem Zft(w:World)(m:Msg)(v:Value)(hv:Z2d w v m.opts)(hl:m.opts.length<1099511627776) : Calls Tryz.prog 16 #[mV m (sc1 v)] w λe w'=>e=.returned (.int .i64 (chk m))/\Mod [] w w':=by
 refine Z1 (Z3 (J:=[.i m.kind,.i m.code,.i m.id,.s m.tok,.v v,.r (m.opts.map encO),.s m.pay]) sxE_ok Tryz.func16 Z3l rfl rfl (Rel.start2 (by simp[Ent.holds,Ent.wr,hv,X.ev])) rfl rfl ?_) rfl;simp only[Tree.goal,X.P,X.ev,SV.ev,CV.ev,Sc.ev,qz,QA,QB,QC,QD,QE,QF,QG,QH,QI,QJ,QK,QL,QM,Nat.reduceAdd,qy3];intro b;refine⟨λh w' hr=>⟨by rw[Zoc h],hr.mod⟩,λh=>?_⟩;refine⟨λh1 w' hr=>⟨by rw[Zey (by omega) (by omega)],hr.mod⟩,λh1=>?_⟩;refine⟨λh2 w' hr=>⟨by rw[Zey (by omega) (by omega)],hr.mod⟩,λh2=>?_⟩;refine⟨λh3 w' hr=>⟨by rw[Zod (by omega) (by omega) (by omega)],hr.mod⟩,λh3=>?_⟩;rw[Zoe (by omega) (by omega) (by omega)];refine⟨λvs=>∃(i:Nat) (x:V) (was:Int),vs=[x,.i i]/\i<=m.opts.length/\optE was (m.opts.drop i)=optE 0 m.opts/\(i=0/\was=0\/0<i/\was=(m.opts.getD (i - 1) oD).1),λvs=>(m.opts.length - (vs.getD 1 (.i 0)).toI).toNat,⟨0,_,0,rfl,by omega,rfl,.inl ⟨rfl,rfl⟩⟩,?_⟩;rintro _ - ⟨i,x,was,rfl,hi,hg,hw⟩;simp only[Tree.goal,X.P,X.ev,SV.ev,CV.ev,Sc.ev,qz,QA,QB,QC,QD,QE,QF,QG,QH,QI,QJ,QK,QL,QM,Nat.reduceAdd,qy3,qy4,Z17,Z18];refine⟨λh4=>?_,λh4=>?_⟩
 ·rw[Z12x m.opts i (by omega)]at hg;have e1:((i:Int) - 1).toNat=i - 1:=by omega
  rw[e1];have hw':i+1≠0/\(m.opts.getD i oD).1=(m.opts.getD (i+1 - 1) oD).1:=by simp
  generalize m.opts.getD i oD=o at hg hw'⊢
  (repeat refine⟨by omega,?_⟩)
  intro b;simp only[optE]at hg;refine⟨λh5 w' hr=>⟨by rw[if_neg h5]at hg;rw[<- hg];rfl,hr.mod⟩,λh5=>?_⟩;rw[if_pos (qy9.1 h5)]at hg
  (repeat refine⟨by omega,?_⟩)
  refine⟨λh6 w' hr=>⟨?_,hr.mod⟩,λh6=>?_⟩
  ·rw[if_pos (by omega)]at hg;rw[<- hg];rfl
  rw[if_neg (by omega)]at hg;refine⟨λh7 w' hr=>⟨by rw[if_pos h7]at hg;rw[<- hg];rfl,hr.mod⟩,λh7=>?_⟩;rw[if_neg h7]at hg;exact⟨by omega,by omega,⟨i+1,_,o.1,rfl,by omega,hg,.inr ⟨by omega,hw'.2⟩⟩,by omega⟩
 ·have:i=m.opts.length:=by omega
  subst this;rw[List.drop_length]at hg;have hg:optE 0 m.opts=0:=by rw[<- hg];rfl
  rw[if_neg (λh=>h hg)];have e2:(m.code=0/\(m.tok≠[]\/m.pay≠[]\/m.opts≠[]))↔(m.code=0/\((¬m.tok=[]\/¬m.pay=[])\/0<(m.opts.length:Int))):=by
   have:m.opts≠[]↔0<(m.opts.length:Int):=by rw[ne_eq,<- List.length_eq_zero_iff];omega
   rw[this,or_assoc]
  refine⟨λh5 w' hr=>⟨?_,hr.mod⟩,λh5 w' hr=>⟨?_,hr.mod⟩⟩
  ·rw[if_pos (e2.2 h5)]
  ·rw[if_neg (λh=>h5 (e2.1 h))]
def Z2v:List (List UInt8)->List UInt8
 | []=>[]
 | [x]=>x
 | x::y::xs=>x++47::Z2v (y::xs)
theorem Z4o{s:List UInt8}{f:Bool}:chkT s f=0↔s≠[]/\(s.length<=60/\(lev s).length<=6)/\Z1t s=true/\badL f (lev s)=false:=by
 unfold chkT;by_cases h1:s=[]
 ·rw[if_pos h1];simp[h1]
 ·rw[if_neg h1];by_cases h2:60<(s.length:Int)\/6<((lev s).length:Int)
  ·rw[if_pos h2];refine⟨λh=>absurd h (by decide),λh=>by omega⟩
  ·rw[if_neg h2];by_cases h3:Z1t s=true
   ·rw[if_pos h3];cases h4:badL f (lev s)
    ·exact⟨λ_=>⟨h1,by omega,h3,rfl⟩,λ_=>rfl⟩
    ·exact⟨λh=>absurd h (by decide),λh=>absurd h.2.2.2 (by simp)⟩
   ·rw[if_neg h3];exact⟨λh=>absurd h (by decide),λh=>absurd h.2.2.1 h3⟩
def noN(n:Int)(os:List Opt):List Opt:=os.filter λo=>decide (o.1≠n)
def upTo(n:Int)(os:List Opt):List Opt:=os.takeWhile λo=>decide (o.1<=n)
def past(n:Int)(os:List Opt):List Opt:=os.dropWhile λo=>decide (o.1<=n)
def Zyo(os:List Opt)(n:Int)(vs:List (List UInt8)):List Opt:=upTo n (noN n os)++vs.map (λv=>(n,v))++past n (noN n os)
theorem Z15f{n:Int}{os:List Opt}(h:∀o∈os,o.1≠n):noN n os=os:=by rw[noN,List.filter_eq_self];simpa using h
def Zh(n:Int)(os:List Opt):List (List UInt8):=(os.filter λo=>decide (o.1=n)).map (·.2)
theorem Zkk{n:Int}{os:List Opt}(h:∀o∈os,o.1≠n):Zh n os=[]:=by rw[Zh,List.map_eq_nil_iff,List.filter_eq_nil_iff];simpa using h
theorem Zof(n:Int)(a b:List Opt):Zh n (a++b)=Zh n a++Zh n b:=by simp[Zh]
theorem Zog{n:Int}:∀{l:List Opt} {k:Nat},k<=l.length->(∀j,j<k->(l.getD j oD).1<=n)->(k<l.length->n<(l.getD k oD).1)->l.take k=upTo n l/\l.drop k=past n l
 | [],k,hk,_,_=>by simp[upTo,past]
 | o::l,0,_,_,h2=>by
  have h:=h2 (by simp);simp only[List.getD_cons_zero]at h;have:¬o.1<=n:=by omega
  simp[upTo,past,List.takeWhile_cons,List.dropWhile_cons,this]
 | o::l,k+1,hk,h1,h2=>by have h:=h1 0 (by omega);simp only[List.getD_cons_zero]at h;obtain⟨e1,e2⟩:=Zog (n:=n) (l:=l) (k:=k) (by simpa using hk) (λj hj=>by have:=h1 (j+1) (by omega);simpa using this) (λhj=>by have:=h2 (by simpa using hj);simpa using this);simp only[upTo,past]at e1 e2⊢;simp[List.takeWhile_cons,List.dropWhile_cons,h,e1,e2]
def Zfu(v:List UInt8):Int×Int:=if 3<(v.length:Int)then(0,1)else((beN v 0:Nat),0)
def Z2a(n:Int)(os:List Opt):Int×Int:=match Zh n os with | []=>(0,5)|v::_=>Zfu v
def Z1x(n:Int):List UInt8:=(numB 3 n).dropWhile λc=>c == 0
def Z10(os:List Opt):List UInt8×Int :=
 if Zh 11 os=[]then([],5)
 else if chkT (Z2v (Zh 11 os)) false=0 then
  (if(Zh 11 os).any (λv=>v.any λc=>c == 47)=true then([],1)else(Z2v (Zh 11 os),0))
 else([],chkT (Z2v (Zh 11 os)) false)
theorem Zyp(l:List UInt8):beN (l.dropWhile λc=>c == 0) 0=beN l 0:=by
 induction l with
 | nil=>rfl
 | cons c l ih =>
  rw[List.dropWhile_cons];split
  ·rename_i h;have:c=0:=by simpa using h
   subst this;rw[ih];rfl
  ·rfl
theorem Zfv{l:List UInt8}{c:UInt8}:(l++[c]).dropWhile (λc=>c == 0)=if(l.dropWhile λc=>c == 0)=[]then(if c=0 then[]else[c])else(l.dropWhile λc=>c == 0)++[c]:=by
 induction l with
 | nil=>by_cases h:c=0<;>simp[List.dropWhile_cons,h]
 | cons x l ih =>
  by_cases h:x=0
  ·subst h;simpa[List.dropWhile_cons]using ih
  ·simp[List.dropWhile_cons,h]
theorem Zgx(k n:Nat):(numB (k+1) (n:Int)).dropWhile (λc=>c == 0) = if((numB k ((n / 256:Nat):Int)).dropWhile λc=>c == 0)=[]then(if n % 256=0 then[]else[UInt8.ofNat (n % 256)])else((numB k ((n / 256:Nat):Int)).dropWhile λc=>c == 0)++[UInt8.ofNat (n % 256)]:=by
 rw[Zkb,Zfv];have:(UInt8.ofNat (n % 256)=0)↔n % 256=0:=by
  constructor
  ·intro h;have:=congrArg UInt8.toNat h;simpa using this
  ·intro h;rw[h];rfl
 simp only[this]
theorem Zaq(k n:Nat)(h:n<pw k):((numB k (n:Int)).dropWhile λc=>c == 0)=[]↔n=0:=by
 constructor
 ·intro h1;have:=Zyp (numB k (n:Int));rw[h1,Zo9 k n h]at this;exact this.symm
 ·rintro rfl;induction k with
  | zero=>rfl
  | succ k ih =>
   rw[Zgx,if_pos,if_pos rfl];exact ih (by have:pw 0<=pw k:=Zig (Nat.zero_le k);exact this)
theorem Zqm(k n:Nat)(h:n<pw (k+1)):(numB (k+1) (n:Int)).dropWhile (λc=>c == 0)=if n=0 then[]else((numB k ((n / 256:Nat):Int)).dropWhile λc=>c == 0)++[UInt8.ofNat (n % 256)]:=by
 have hk:n / 256<pw k:=by have h:n<256*pw k:=h;omega
 rw[Zgx];by_cases h0:n / 256=0
 ·rw[if_pos ((Zaq k _ hk).2 h0),(Zaq k _ hk).2 h0];by_cases h1:n=0
  ·subst h1;rfl
  ·rw[if_neg (by omega),if_neg h1];rfl
 ·rw[if_neg (λe=>h0 ((Zaq k _ hk).1 e)),if_neg (by omega)]
open Go Go.Shelf Go.RowKit Go.Lib
set_option maxRecDepth 100000 in
theorem Zu8:Zep Tryz.prog 241:=by
  intro w b n c i vb vc hi hc hb;go_enter Tryz.func241,Tryz.ntmps241
  go_wp2
  all_goals (go_ret;exact⟨rfl,rfl⟩)
set_option maxRecDepth 100000 in
theorem Zyq:Zk8 Tryz.prog 241 48:=by
  intro w b n c vb m vc hm hc hb v' w' hrun;have hz1:¬((m:Int)=0):=by omega
  go_enter Tryz.func241,Tryz.ntmps241
  go_wp2_with (at_builtin;refine Lib.wpList_append_run _ rfl _ _ _ _ rfl _ _ rfl rfl _ _ (hrun _) ?_)
  all_goals (go_ret;exact⟨rfl,rfl⟩)
set_option maxRecDepth 100000 in
theorem Zqn:Zag Tryz.prog 241 262 48 2:=by
  intro w g n c i vb m vc cur1 cur2 hi hm hroom hc63 hov hcp1 hcp2;obtain⟨hz1,hz2,hw1,hw2,hb1,hin,htn,htn2,hb3,-⟩:=insN hi hm (by omega);have hb2:¬(c=i+m):=by omega
  have hb4:¬(c=i):=by omega
  have mixed:Tryz.prog.follows Departure.mixedOrders=true:=by kernel_rfl
  go_enter Tryz.func241,Tryz.ntmps241
  go_wp2_with (simp only[hov])
  go_region_law_o (refine step_copy_runI rfl _ _ 48 48 rfl _ _ (by simp[Act.eval,Act.put]) (by simp[Act.eval,Act.put]) (hcp1 _ _ _) ?_)
  go_wp2_with (at_builtin;refine wpList_copy_runI _ rfl _ _ 48 48 rfl _ _ rfl rfl (hcp2 _ rfl _ _) ?_)
  go_ret
  first|exact⟨rfl,rfl⟩|exact⟨rfl,by rw[setRow_setRow]⟩
set_option maxRecDepth 100000 in
theorem Zu9:Zeq Tryz.prog 241 113 48 3 2:=by
  intro w g n c i vb m vc G ROW cur2 cur3 hi hm hnc hroom hGn hG63 hrz hcpA hcpB Q hfin;obtain⟨hz1,hz2,hw1,-,hb1,hin,htn,-,-,hb3⟩:=insN hi hm (by omega);have hz3:(c:Int)<(n:Int)+(m:Int):=by omega
  have hGi:¬(G=i):=by omega
  have hGim:¬(G=i+m):=by omega
  have hci:¬(c=i):=by omega
  have mixed:Tryz.prog.follows Departure.mixedOrders=true:=by kernel_rfl
  have hE1:((w.alloc (.cells ROW 113)).drew).heap=(w.drew.alloc (.cells ROW 113)).heap:=rfl;have hF1:(((w.alloc (.cells ROW 113)).drew.setRow w.heap.size cur2).drew).heap=((w.drew.alloc (.cells ROW 113)).setRow w.heap.size cur2).heap:=rfl;go_enter Tryz.func241,Tryz.ntmps241
  go_wp2_with (first
    | (at_builtin;refine Lib.wpList_append_run _ rfl _ _ _ _ rfl _ _ rfl rfl _ _ (hrz _) ?_)
    | (at_builtin;refine wpList_copy_runI _ rfl _ _ 48 48 rfl _ _ rfl rfl (hcpA _ hE1 _ _) ?_)
    | (at_builtin;refine wpList_copy_runI _ rfl _ _ 48 48 rfl _ _ rfl rfl (hcpB _ hF1 _ _ _) ?_))
  go_region_law_o (refine step_copy_runI rfl _ _ 48 48 rfl (.slice (some ⟨w.heap.size,(i+m)*2,none⟩) (n+m - (i+m)) (G - (i+m))) (.slice (some ⟨g,i*2,none⟩) (n - i) (c - i)) (by simp[Act.eval,Act.put]) (by simp[Act.eval,Act.put]) (hcpB _ hF1 3 (G - (i+m)) (c - i)) ?_)
  go_wp2
  exact hfin _ rfl rfl rfl rfl
theorem Zua(w:World)(s v:Value)(i:Nat)(R V:List (List Value))(hs:owns w s 113 [.int .i64,.str] R)(hv:owns w v 113 [.int .i64,.str] V)(hne:∀k,Z2 s k->Z2 v k->False)(hi:i<=R.length)(hb:(R.length+V.length)*24<=140737488355328) : Calls Tryz.prog 241 #[s,.int .i64 i,v] w λe w'=>∃v',e=.returned v'/\Zeo w w' s v' 113 [.int .i64,.str] (R.take i++V++R.drop i) :=
  Zia (K:=2) Tryz.underlying48 Tryz.underlying3 (by kernel_rfl) rfl (by decide) (by decide) (λargs w=>run_callFunc_extern Tryz.func262 (by kernel_rfl) (by kernel_rfl) (by kernel_rfl) (e:=Extern.SlicesOverlaps.overlaps #[48,48] #[4]) (by kernel_rfl) args w) Zu8 Zyq Zqn Zu9 w s v i R V hs hv hne hi hb
theorem Zub{was:Int}{o:Opt}{l:List Opt}:optE was (o::l)=0↔(0<=o.1/\o.1<=65535)/\was<=o.1/\o.2.length<=60/\optE o.1 l=0:=by
 simp only[optE];constructor
 ·intro h;split at h
  ·split at h
   ·exact absurd h (by decide)
   ·split at h
    ·exact absurd h (by decide)
    ·exact⟨by assumption,by omega,by omega,h⟩
  ·exact absurd h (by decide)
 ·rintro⟨h1,h2,h3,h4⟩;rw[if_pos h1,if_neg (by omega),if_neg (by omega),h4]
theorem Z12z(os:List Opt)(i:Nat)(h:i<os.length):os.take (i+1)=os.take i++[os.getD i oD]:=by rw[List.take_add_one,qy1,qy7 h];rfl
abbrev kO:List Kd:=[.int .i64,.str]
abbrev Zuc(w:World)(v:Value)(l:List Opt):Prop:=owns w v 113 kO (l.map encO)
def newO(n:Nat)(u:Value):Prop:=∀k,Z2 u k->n<=k
theorem Zoh{J:List V}{g:List Nat}{i:Nat}(hi:i∈g){k:Nat}(h:Z2 (J.getD i (.i 0)).toV k):k∈Zw J g:=List.mem_flatMap.2 ⟨i,hi,by rw[h];simp⟩
theorem Zud{v:Value}(hn:(match v with | .slice none _ _=>true|_=>false)=true){w:World}{ks:List Kd}{rows:List (List Value)}(h:reads w v ks rows):rows=[]:=by obtain⟨_,a,cap,rfl,_,h2⟩:=h;refine Classical.byContradiction λhne=>?_;obtain⟨ad,rfl,_⟩:=h2 hne;simp at hn
theorem Zyr(w:World)(v:Value)(l:List Opt)(hv:Z2d w v l)(hl:l.length<1000000000):Calls Tryz.prog 261 #[sc1 v] w λe w'=>∃v',e=.returned (sc1 v')/\Zuc w' v' l/\(∀k,Z2 v' k->w.heap.size<=k)/\Mod [] w w':=by
 refine Z1 (Z3 (J:=[.v v,.r (l.map encO)]) sxE_ok Tryz.func261 Z23 rfl rfl (Rel.start2 (by simp[Ent.holds,Ent.wr,hv,X.ev])) rfl rfl ?_) rfl;simp only[Tree.goal,X.P,X.ev,SV.ev,CV.ev,Sc.ev,qz,QA,QB,QC,QD,QE,QF,QG,QH,QI,QJ,QK,QL,QM,Nat.reduceAdd,qy3,List.nil_append];refine⟨λh w' hr=>?_,λh v1=>⟨by simp only[Int.natCast_zero];omega,λv2 w' hr=>?_⟩⟩
 ·have hn:l=[]:=List.map_eq_nil_iff.1 (Zud h hv);subst hn;exact⟨_,rfl,hr.at_ 0 rfl,hr.fresh 0 rfl,hr.mod⟩
 ·exact⟨v2,rfl,hr.at_ 0 rfl,hr.fresh 0 rfl,hr.mod⟩
theorem Z15g(w:World)(s v:Value)(l x:List Opt)(i:Nat)(hs:Zuc w s l)(hv:Zuc w v x)(hne:∀k,Z2 s k->Z2 v k->False)(hi:i<=l.length)(hl:l.length<1000000000)(hx:x.length<1000000000) : Calls Tryz.prog 241 #[sc1 s,.int .i64 i,sc1 v] w λe w'=>∃v',e=.returned (sc1 v')/\Zuc w' v' (l.take i++x++l.drop i)/\(∀k,Z2 v' k->Z2 s k\/w.heap.size<=k)/\Mod s.ownBlock.toList w w':=by rw[hs.reads.sc1,hv.reads.sc1];refine(Zua w s v i _ _ hs hv hne (by simpa using hi) (by simp;omega)).mono ?_;rintro e w' ⟨v',rfl,g1,g2,g3⟩;refine⟨v',by rw[g1.reads.sc1],?_,g2,Mod.of_grown g3 λk hk=>.inl (Option.mem_toList.2 hk)⟩;rw[Zuc,List.map_append,List.map_append,List.map_take,List.map_drop];exact g1
theorem Zys(R:List Opt)(m:Nat)(x:Opt):(R.map encO).set m [.int .i64 x.1,.string ⟨x.2.toArray⟩]=(R.set m x).map encO:=by rw[List.map_set];rfl
theorem Zoi(n:Int)(os:List Opt)(i:Nat)(h:i<os.length):noN n (os.take (i+1))=noN n (os.take i)++(if(os.getD i oD).1=n then[]else[os.getD i oD]):=by
 rw[Z12z os i h,noN,noN,List.filter_append];generalize os.getD i oD=o
 by_cases h1:o.1=n<;>simp[h1]
theorem Z130(n:Int)(os:List Opt):(noN n os).length<=os.length:=List.length_filter_le _ _
theorem Zue{n:Int}{os:List Opt}(h:∀j,j<os.length->(os.getD j oD).1≠n):noN n os=os:=by refine Z15f λo ho=>?_;obtain⟨i,hi,rfl⟩:=List.getElem_of_mem ho;have:=h i hi;rwa [qy1,qy7 hi]at this
theorem Zar(w:World)(m:Msg)(v u:Value)(n:Int)(us:List (List UInt8))(hv:Z2d w v m.opts)(hu:Zef w u us)(hl:m.opts.length<1000000000)(hul:us.length<1000000000) : Calls Tryz.prog 215 #[mV m (sc1 v),.int .i64 n,sc1 u] w λe w'=>∃v',e=.returned (mV m (sc1 v'))/\Z2d w' v' (Zyo m.opts n us)/\newO w.heap.size v'/\Mod [] w w':=by
 refine Z1 (Z3 (J:=[.i m.kind,.i m.code,.i m.id,.s m.tok,.v v,.r (m.opts.map encO),.s m.pay,.i n,.v u,.r (us.map Z15)]) (sxE_ok.joins _) Tryz.func215 Zcp rfl rfl (Rel.start2 (by simp[Ent.holds,Ent.wr,hv,hu,X.ev])) rfl rfl ?_) rfl;simp only[Tree.goal,X.P,X.ev,SV.ev,CV.ev,Sc.ev,qz,QA,QB,QC,QD,QE,QF,QG,QH,QI,QJ,QK,QL,QM,Nat.reduceAdd,qy3,qy4,Z17,Z18,Zd];intro b1 b2 b3 b4 b5 w1 hr;refine(Zyr w1 v m.opts (hr.at_ 5 rfl) hl).mono ?_;rintro e w2 ⟨q,rfl,a1,f1,m1⟩;refine⟨[.v q,.r (m.opts.map encO)],rfl,rfl,m1,qy5 _,qy2.2 ⟨⟨a1,λk hk=>.inl (f1 k hk)⟩,qy5 _⟩,Z5,?_⟩;clear hr a1 f1 m1;simp only[Tree.goal,X.P,X.ev,SV.ev,CV.ev,Sc.ev,qz,QA,QB,QC,QD,QE,QF,QG,QH,QI,QJ,QK,QL,QM,Nat.reduceAdd,qy3,qy4,Z17,Z18,Zd];intro b6;generalize hos:m.opts=os at hl⊢
 refine⟨λvs=>∃u',vs=[.i 0,.i 0,.i 0,.i 0,.i 0,.i 0,.i 0,.i 0,.i 0,.i 0,.v u',.i n,.r ((noN n os).map encO)],?_,?_⟩
 ·refine⟨λvs=>∃(x:V) (i:Nat),vs=[x,.i i,.i n]/\i<=os.length/\∀j,j<i->(os.getD j oD).1≠n,λvs=>(os.length - (vs.getD 1 (.i 0)).toI).toNat,⟨_,0,rfl,by omega,λj hj=>by omega⟩,?_⟩;rintro _ - ⟨x,i,rfl,hi,hn⟩;simp only[Tree.goal,X.P,X.ev,SV.ev,CV.ev,Sc.ev,qz,QA,QB,QC,QD,QE,QF,QG,QH,QI,QJ,QK,QL,QM,Nat.reduceAdd,qy3,qy4,Z17,Z18,Zd];refine⟨λh1=>?_,λh1=>?_⟩
  ·(repeat refine⟨by omega,?_⟩)
   intro b7;refine⟨λh2=>⟨λh3=>by omega,λh3=>⟨by omega,by omega,?_⟩⟩,λh2=>?_⟩
   ·refine⟨λvs=>∃(a j:Nat) (R:List Opt),vs=[.i a,.i j,.r (R.map encO),.i n]/\a<j/\j<=os.length/\R.length=os.length/\R.take a=noN n (os.take j)/\R.drop j=os.drop j,λvs=>(os.length - (vs.getD 1 (.i 0)).toI).toNat,
     ⟨i,i+1,os,rfl,by omega,by omega,rfl,?_,rfl⟩,?_⟩
    ·rw[Zoi n os i (by omega),if_pos h2,List.append_nil,Zue];intro j hj;simp only[List.length_take]at hj;have:=hn j (by omega);rw[qy1]at this⊢;rwa [List.getElem?_take_of_lt (by omega)]
    rintro _ - ⟨a,j,R,rfl,haj,hj,hR,ht,hd⟩;simp only[Tree.goal,X.P,X.ev,SV.ev,CV.ev,Sc.ev,qz,QA,QB,QC,QD,QE,QF,QG,QH,QI,QJ,QK,QL,QM,Nat.reduceAdd,qy3,qy4,Z17,Z18,Zd,hR];have hg:j<os.length->R.getD j oD=os.getD j oD:=λh=>by have:=congrArg (λl=>l[0]?) hd;simp only[List.getElem?_drop,Nat.add_zero]at this;rw[qy1,qy1,this]
    refine⟨λh3=>?_,λh3=>?_⟩
    ·(repeat refine⟨by omega,?_⟩)
     intro b8 b9;have hjl:j<os.length:=by omega
     have hs1:=Zoi n os j hjl;have hg:=hg hjl;have hd':R.drop (j+1)=os.drop (j+1):=by have:=congrArg (λl=>l.drop 1) hd;simpa[List.drop_drop,Nat.add_comm]using this
     refine⟨λh4=>?_,λh4=>?_⟩
     ·(repeat refine⟨by omega,?_⟩)
      refine⟨⟨a+1,j+1,R.set a (R.getD j oD),?_,by omega,by omega,by simpa using hR,?_,?_⟩,by omega⟩
      ·rw[<- Zys];rfl
      ·rw[hs1,if_neg (by rw[<- hg];exact h4),<- ht,<- hg,Z12z _ _ (by simp;omega)];congr 1
       ·rw[List.take_set_of_le (Nat.le_refl _)]
       ·rw[qy1,List.getElem?_set_self (by omega)];rfl
      ·rw[List.drop_set_of_lt (by omega)];exact hd'
     ·(repeat refine⟨by omega,?_⟩)
      refine⟨⟨a,j+1,R,rfl,by omega,by omega,hR,?_,hd'⟩,by omega⟩;rw[hs1,if_pos (by rw[<- hg];exact qy9.1 h4),List.append_nil];exact ht
    ·have hje:j=os.length:=by omega
     subst hje;rw[List.take_length]at ht;refine⟨by omega,by omega,?_,λu'=>⟨u',?_⟩⟩
     ·simp only[qy11,List.length_take,List.length_replicate,qy3,hR];omega
     ·congr 1
      simp only[List.cons.injEq,true_and,and_true];congr 1
      rw[List.take_append_of_le_length (by simp;omega),List.take_take,Nat.min_self,<- List.map_take,ht]
   ·(repeat refine⟨by omega,?_⟩)
    refine⟨⟨_,i+1,rfl,by omega,λj hj=>?_⟩,by omega⟩;by_cases hji:j=i
    ·subst hji;exact h2
    ·exact hn j (by omega)
  ·have hie:i=os.length:=by omega
   subst hie;refine⟨q,?_⟩;rw[Zue hn]
 rintro _ - ⟨u',rfl⟩;generalize hN:noN n os=R
 have hRl:R.length<1000000000:=by have:=Z130 n os;rw[hN]at this;omega
 simp only[Tree.goal,X.P,X.ev,SV.ev,CV.ev,Sc.ev,qz,QA,QB,QC,QD,QE,QF,QG,QH,QI,QJ,QK,QL,QM,Nat.reduceAdd,qy3,qy4,Z17,Z18,Zd];refine⟨λvs=>∃k:Int,vs=[.i 0,.i 0,.i n,.i 0,.i k]/\((k=-1/\∀j,j<R.length->(R.getD j oD).1<=n)\/∃i:Nat,k=i/\i<R.length/\(∀j,j<i->(R.getD j oD).1<=n)/\n<(R.getD i oD).1),?_,?_⟩
 ·refine⟨λvs=>∃(x:V) (i:Nat),vs=[x,.i i,.i n]/\i<=R.length/\∀j,j<i->(R.getD j oD).1<=n,λvs=>(R.length - (vs.getD 1 (.i 0)).toI).toNat,⟨_,0,rfl,by omega,λj hj=>by omega⟩,?_⟩;rintro _ - ⟨x,i,rfl,hi,hn⟩;simp only[Tree.goal,X.P,X.ev,SV.ev,CV.ev,Sc.ev,qz,QA,QB,QC,QD,QE,QF,QG,QH,QI,QJ,QK,QL,QM,Nat.reduceAdd,qy3,qy4,Z17,Z18,Zd];refine⟨λh1=>?_,λh1=>⟨-1,rfl,.inl ⟨rfl,λj hj=>hn j (by omega)⟩⟩⟩
  (repeat refine⟨by omega,?_⟩)
  intro b7;refine⟨λh2=>⟨i,rfl,.inr ⟨i,rfl,by omega,hn,h2⟩⟩,λh2=>?_⟩
  (repeat refine⟨by omega,?_⟩)
  refine⟨⟨_,i+1,rfl,by omega,λj hj=>?_⟩,by omega⟩;by_cases hji:j=i
  ·subst hji;omega
  ·exact hn j (by omega)
 rintro _ - ⟨k,rfl,hk⟩;simp only[Tree.goal,X.P,X.ev,SV.ev,CV.ev,Sc.ev,qz,QA,QB,QC,QD,QE,QF,QG,QH,QI,QJ,QK,QL,QM,Nat.reduceAdd,qy3,qy4,Z17,Z18,Zd];refine⟨λvs=>∃k:Nat,vs=[.i k]/\k<=R.length/\(∀j,j<k->(R.getD j oD).1<=n)/\(k<R.length->n<(R.getD k oD).1),⟨λh1=>?_,λh1=>?_⟩,?_⟩
 ·rcases hk with⟨h2,h3⟩|⟨i,h2,-⟩
  ·exact⟨R.length,rfl,Nat.le_refl _,h3,λh=>by omega⟩
  ·omega
 ·rcases hk with⟨h2,h3⟩|⟨i,h2,h3,h4,h5⟩
  ·omega
  ·subst h2;exact⟨i,rfl,by omega,h4,λ_=>h5⟩
 rintro _ - ⟨i,rfl,hi,h1,h2⟩;obtain⟨e1,e2⟩:=Zog hi h1 h2;simp only[Tree.goal,X.P,X.ev,SV.ev,CV.ev,Sc.ev,qz,QA,QB,QC,QD,QE,QF,QG,QH,QI,QJ,QK,QL,QM,Nat.reduceAdd,qy3,qy4,Z17,Z18,Zd];refine⟨λvs=>∃(v1:Value) (i:Nat),vs=[.v v1,.r (((us.take i).map λx=>((n,x):Opt)).map encO),.i i]/\i<=us.length,λvs=>(us.length - (vs.getD 2 (.i 0)).toI).toNat,⟨_,0,rfl,by omega⟩,?_⟩;rintro _ - ⟨v1,j,rfl,hj⟩;simp only[Tree.goal,X.P,X.ev,SV.ev,CV.ev,Sc.ev,qz,QA,QB,QC,QD,QE,QF,QG,QH,QI,QJ,QK,QL,QM,Nat.reduceAdd,qy3,qy4,Z17,Z18,Zd];refine⟨λh3=>?_,λh3 w3 hr=>?_⟩
 ·(repeat refine⟨by omega,?_⟩)
  intro v2;refine⟨by simp;omega,λv3=>⟨by omega,by omega,⟨v3,j+1,?_,by omega⟩,by omega⟩⟩;rw[List.take_add_one,List.map_append,List.map_append,qy7 (by omega),qy1,qy7 (by omega)];rfl
 ·have:j=us.length:=by omega
  subst this;rw[List.take_length]at hr;refine(Z15g w3 u' v1 R _ i (hr.at_ 1 rfl) (hr.at_ 0 rfl) (λk h5 h6=>hr.sep.disj (i:=1) (j:=0) rfl rfl (by omega) (.inl rfl) (k:=k) h5 h6) hi hRl (by simpa using hul)).mono ?_;rintro e w4 ⟨v',rfl,g1,g2,g3⟩;refine⟨[.v v',.r ((R.take i++(us.map λx=>((n,x):Opt))++R.drop i).map encO)],rfl,rfl,g3.mono λk hk=>.inl (by unfold Zo;exact List.mem_append_right _ (Zoh (i:=28) (by simp) (Option.mem_toList.1 hk))),qy5 _,qy2.2 ⟨⟨g1,λk hk=>?_⟩,qy5 _⟩,Z5,?_⟩
  ·rcases g2 k hk with h5|h5
   ·exact .inr (.inr (Zoh (i:=28) (by simp) h5))
   ·exact .inl h5
  ·intro w5 hr5;refine⟨v',rfl,?_,hr5.fresh 0 rfl,hr5.mod⟩;have:=(hr5.at_ 0 rfl).reads;rw[e1,e2]at this;rw[Z2d,Zyo,hN];exact this
end Go.Proofs.Y
namespace Go.Proofs
open Go.Shelf
def Tryz.lays144_ren:Go.Shelf.Ren:=⟨fun|144=>174|143=>208|219=>233|217=>255|225=>256|224=>257|267=>258|266=>284|314=>285|n=>n,fun|9=>9|4=>4|3=>3|5=>5|46=>190|146=>277|51=>271|n=>n,fun|1=>0|n=>n⟩
theorem Tryz.lays144:Go.Proofs.Lays.n144 Tryz.prog Tryz.lays144_ren:={
 mixed:=by kernel_rfl
 f143:=qF Tryz.func208 (by kernel_rfl)
 f144:=qF Tryz.func174 (by kernel_rfl)
 f217:=qF Tryz.func255 (by kernel_rfl)
 f219:=qF Tryz.func233 (by kernel_rfl)
 f224:=qF Tryz.func257 (by kernel_rfl)
 f225:=qF Tryz.func256 (by kernel_rfl)
 f266:=qF Tryz.func284 (by kernel_rfl)
 f267:=qF Tryz.func258 (by kernel_rfl)
 f314:=qF Tryz.func285 (by kernel_rfl)
 t3:=Tryz.underlying3
 a3:=Tryz.isAgg3
 z3:=Tryz.sizeOf3
 v3:=Tryz.zeroValue3
 t4:=Tryz.underlying4
 a4:=Tryz.isAgg4
 z4:=Tryz.sizeOf4
 v4:=Tryz.zeroValue4
 t5:=Tryz.underlying5
 a5:=Tryz.isAgg5
 z5:=Tryz.sizeOf5
 v5:=Tryz.zeroValue5
 t9:=Tryz.underlying9
 a9:=Tryz.isAgg9
 z9:=Tryz.sizeOf9
 v9:=Tryz.zeroValue9
 t46:=Tryz.underlying190
 a46:=Tryz.isAgg190
 z46:=Tryz.sizeOf190
 v46:=Tryz.zeroValue190
 t51:=Tryz.underlying271
 a51:=Tryz.isAgg271
 z51:=Tryz.sizeOf271
 v51:=Tryz.zeroValue271
 t146:=Tryz.underlying277
 a146:=Tryz.isAgg277
 z146:=Tryz.sizeOf277
 v146:=Tryz.zeroValue277
 g1:=by kernel_rfl }
def Tryz.lays161_ren:Go.Shelf.Ren:=⟨fun|161=>242|231=>264|227=>253|233=>265|235=>266|228=>254|197=>287|151=>288|260=>298|152=>251|137=>282|119=>283|224=>257|225=>256|217=>255|266=>284|n=>n,fun|9=>9|4=>4|3=>3|5=>5|117=>248|116=>247|0=>0|124=>261|105=>279|21=>21|119=>294|46=>190|139=>297|138=>296|n=>n,fun|3=>1|4=>2|n=>n⟩
theorem Tryz.lays161:Go.Proofs.Lays.n161 Tryz.prog Tryz.lays161_ren:={
 mixed:=by kernel_rfl
 f119:=qF Tryz.func283 (by kernel_rfl)
 f137:=qF Tryz.func282 (by kernel_rfl)
 f151:=qF Tryz.func288 (by kernel_rfl)
 f152:=qF Tryz.func251 (by kernel_rfl)
 f161:=qF Tryz.func242 (by kernel_rfl)
 f197:=qF Tryz.func287 (by kernel_rfl)
 f217:=qF Tryz.func255 (by kernel_rfl)
 f224:=qF Tryz.func257 (by kernel_rfl)
 f225:=qF Tryz.func256 (by kernel_rfl)
 f227:=qF Tryz.func253 (by kernel_rfl)
 f228:=qF Tryz.func254 (by kernel_rfl)
 f231:=qF Tryz.func264 (by kernel_rfl)
 f233:=qF Tryz.func265 (by kernel_rfl)
 f235:=qF Tryz.func266 (by kernel_rfl)
 f260:=qF Tryz.func298 (by kernel_rfl)
 f266:=qF Tryz.func284 (by kernel_rfl)
 t0:=Tryz.underlying0
 a0:=Tryz.isAgg0
 z0:=Tryz.sizeOf0
 v0:=Tryz.zeroValue0
 t3:=Tryz.underlying3
 a3:=Tryz.isAgg3
 z3:=Tryz.sizeOf3
 v3:=Tryz.zeroValue3
 t4:=Tryz.underlying4
 a4:=Tryz.isAgg4
 z4:=Tryz.sizeOf4
 v4:=Tryz.zeroValue4
 t5:=Tryz.underlying5
 a5:=Tryz.isAgg5
 z5:=Tryz.sizeOf5
 v5:=Tryz.zeroValue5
 t9:=Tryz.underlying9
 a9:=Tryz.isAgg9
 z9:=Tryz.sizeOf9
 v9:=Tryz.zeroValue9
 t21:=Tryz.underlying21
 a21:=Tryz.isAgg21
 z21:=Tryz.sizeOf21
 v21:=Tryz.zeroValue21
 t46:=Tryz.underlying190
 a46:=Tryz.isAgg190
 z46:=Tryz.sizeOf190
 v46:=Tryz.zeroValue190
 t105:=Tryz.underlying279
 a105:=Tryz.isAgg279
 z105:=Tryz.sizeOf279
 v105:=Tryz.zeroValue279
 t116:=Tryz.underlying247
 a116:=Tryz.isAgg247
 z116:=Tryz.sizeOf247
 t117:=Tryz.underlying248
 a117:=Tryz.isAgg248
 z117:=Tryz.sizeOf248
 v117:=Tryz.zeroValue248
 t119:=Tryz.underlying294
 a119:=Tryz.isAgg294
 z119:=Tryz.sizeOf294
 t124:=Tryz.underlying261
 a124:=Tryz.isAgg261
 z124:=Tryz.sizeOf261
 v124:=Tryz.zeroValue261
 t138:=Tryz.underlying296
 a138:=Tryz.isAgg296
 z138:=Tryz.sizeOf296
 v138:=Tryz.zeroValue296
 t139:=Tryz.underlying297
 a139:=Tryz.isAgg297
 z139:=Tryz.sizeOf297
 v139:=Tryz.zeroValue297
 g3:=by kernel_rfl
 g4:=by kernel_rfl }
def Tryz.lays156_ren:Go.Shelf.Ren:=⟨fun|156=>175|165=>209|166=>210|169=>211|240=>234|241=>235|276=>259|277=>260|n=>n,fun|31=>134|9=>9|3=>3|4=>4|0=>0|20=>20|72=>211|76=>215|70=>209|37=>185|75=>214|127=>233|164=>253|5=>5|80=>217|n=>n,fun|n=>n⟩
theorem Tryz.lays156:Go.Proofs.Lays.n156 Tryz.prog Tryz.lays156_ren:={
 mixed:=by kernel_rfl
 f156:=qF Tryz.func175 (by kernel_rfl)
 f165:=qF Tryz.func209 (by kernel_rfl)
 f166:=qF Tryz.func210 (by kernel_rfl)
 f169:=qF Tryz.func211 (by kernel_rfl)
 f240:=qF Tryz.func234 (by kernel_rfl)
 f241:=qF Tryz.func235 (by kernel_rfl)
 f276:=qF Tryz.func259 (by kernel_rfl)
 f277:=qF Tryz.func260 (by kernel_rfl)
 t0:=Tryz.underlying0
 a0:=Tryz.isAgg0
 z0:=Tryz.sizeOf0
 v0:=Tryz.zeroValue0
 t3:=Tryz.underlying3
 a3:=Tryz.isAgg3
 z3:=Tryz.sizeOf3
 v3:=Tryz.zeroValue3
 t4:=Tryz.underlying4
 a4:=Tryz.isAgg4
 z4:=Tryz.sizeOf4
 v4:=Tryz.zeroValue4
 t9:=Tryz.underlying9
 a9:=Tryz.isAgg9
 z9:=Tryz.sizeOf9
 v9:=Tryz.zeroValue9
 t20:=Tryz.underlying20
 a20:=Tryz.isAgg20
 z20:=Tryz.sizeOf20
 v20:=Tryz.zeroValue20
 t31:=Tryz.underlying134
 a31:=Tryz.isAgg134
 z31:=Tryz.sizeOf134
 v31:=Tryz.zeroValue134
 t37:=Tryz.underlying185
 a37:=Tryz.isAgg185
 z37:=Tryz.sizeOf185
 v37:=Tryz.zeroValue185
 t70:=Tryz.underlying209
 a70:=Tryz.isAgg209
 z70:=Tryz.sizeOf209
 v70:=Tryz.zeroValue209
 t72:=Tryz.underlying211
 a72:=Tryz.isAgg211
 z72:=Tryz.sizeOf211
 v72:=Tryz.zeroValue211
 t75:=Tryz.underlying214
 a75:=Tryz.isAgg214
 z75:=Tryz.sizeOf214
 v75:=Tryz.zeroValue214
 t76:=Tryz.underlying215
 a76:=Tryz.isAgg215
 z76:=Tryz.sizeOf215
 v76:=Tryz.zeroValue215
 t127:=Tryz.underlying233
 a127:=Tryz.isAgg233
 z127:=Tryz.sizeOf233
 v127:=Tryz.zeroValue233
 t164:=Tryz.underlying253
 a164:=Tryz.isAgg253
 z164:=Tryz.sizeOf253
 v164:=Tryz.zeroValue253 }
end Go.Proofs
namespace Go.Proofs.Y
open Go.Sx
theorem Z131(w:World)(s:List UInt8):Calls Tryz.prog 242 #[.string ⟨s.toArray⟩,.string ⟨#[0]⟩] w λe w'=>e=.returned (.string ⟨(s.dropWhile λc=>c == 0).toArray⟩)/\Mod [] w w':=by refine(Z1 (Any.strings_TrimLeft_one Tryz.lays161 ⟨s.toArray⟩ 0 (by decide) w) rfl).mono ?_;rintro e w' ⟨rfl,rfl⟩;exact⟨rfl,Mod.refl _ _⟩
theorem Zuf(s:List UInt8)(c:UInt8):decide (0<=Go.Lib.indexByte s c)=s.any λb=>b == c:=by rw[<- Go.Lib.contains_iff_indexByte,Bool.eq_iff_iff];simp only[List.contains_iff_mem,List.any_eq_true,beq_iff_eq];exact⟨λh=>⟨c,h,rfl⟩,λ⟨x,h,e⟩=>e▸h⟩
theorem Z179(w:World)(s:List UInt8):Calls Tryz.prog 174 #[.string ⟨s.toArray⟩,.string ⟨#[47]⟩] w λe w'=>e=.returned (.bool (s.any λc=>c == 47))/\Mod [] w w':=by refine(Z1 (Any.strings_Contains_one Tryz.lays144 ⟨s.toArray⟩ 47 w) rfl).mono ?_;rintro e w' ⟨rfl,rfl⟩;exact⟨by rw[<- Zuf],Mod.refl _ _⟩
theorem Z10k:Builder.Extra Tryz.prog Tryz.lays156_ren where
 sizeBuilder:=by kernel_rfl
 liesBuilder:=by kernel_rfl
 t5:=Tryz.underlying5
 a5:=Tryz.isAgg5
 z5:=Tryz.sizeOf5
 v5:=Tryz.zeroValue5
 infoByte:=by kernel_rfl
 cellsByte:=by kernel_rfl
 sizeByte:=by kernel_rfl
 neB5:=by decide
theorem Zbp:∀ps:List (List UInt8),Go.Lib.join ps [47]=Z2v ps
 | []=>rfl
 | [x]=>Go.Lib.join_one x [47]
 | x::y::r=>by have:=Zbp (y::r);rw[Go.Lib.join_cons]at this⊢;rw[Z2v,<- this];simp[Go.Lib.joinTail]
theorem Zkl:∀ps:List (List UInt8),(ps.map Z15).flatten=ps.map λp=>Value.string ⟨p.toArray⟩
 | []=>rfl
 | p::ps=>by simp only[List.map_cons,List.flatten_cons,Zkl ps];rfl
theorem Zyt(w:World)(v:Value)(ps:List (List UInt8))(hv:owns w v 9 [.str] (ps.map Z15))(hl:ps.length<=140737488355328)(hb:(Z2v ps).length<=140737488355328) : Calls Tryz.prog 175 #[sc1 v,.string ⟨#[47]⟩] w λe w'=>e=.returned (.string ⟨(Z2v ps).toArray⟩)/\Mod [] w w':=by
 rw[hv.reads.sc1];obtain⟨hk,hlen,ho⟩:=hv;rcases ho with⟨rfl,hn⟩|⟨g,c,cur,rfl,-,hg,hnc,hcm,hcs,htk⟩
 ·have:ps=[]:=by simpa using hn
  subst this;refine(Z1 (Any.strings_Join_none Tryz.lays156 Z10k none 0 ⟨#[47]⟩ w) rfl).mono ?_;rintro e w' ⟨rfl,rfl⟩;exact⟨rfl,Mod.refl _ _⟩
 ·have hgs:g<w.heap.size:=by
   have:=(Array.getElem?_eq_some_iff.1 hg).1;exact this
  have e1:(ps.map λp=>(⟨p.toArray⟩:ByteArray)).map (λx=>x.data.toList)=ps:=by simp[List.map_map,Function.comp_def]
  have hfl:(ps.map Z15).flatten=ps.map λp=>Value.string ⟨p.toArray⟩:=by exact Zkl ps
  rw[hfl]at htk;have:=Any.strings_Join Tryz.lays156 Z10k g 0 c (ps.map λp=>(⟨p.toArray⟩:ByteArray)) ⟨#[47]⟩ w (λj x hj=>?_) hgs (by simpa using hl) (by simpa using hnc) (by rw[e1];show(Go.Lib.join ps [47]).length<=_;rw[Zbp];exact hb)
  ·rw[e1,show(⟨#[47]⟩:ByteArray).data.toList=[47] from rfl,Zbp,qy3]at this;rw[qy3];refine(Z1 this rfl).mono ?_;rintro e w' ⟨rfl,h⟩;exact⟨rfl,Mod.of_below h⟩
  ·rw[List.getElem?_map,Option.map_eq_some_iff]at hj;obtain⟨p,hp,rfl⟩:=hj;have h1:=congrArg (λl=>l[j]?) htk;simp only[List.getElem?_map,hp,Option.map_some]at h1;rw[List.getElem?_take_of_lt (by have:=(List.getElem?_eq_some_iff.1 hp).1;simpa using this)]at h1;simp only[World.cell?,hg,Nat.zero_add];simpa using h1
theorem Zbq(w:World)(n:Int)(h:0<=n/\n<=16777215):Calls Tryz.prog 216 #[.int .i64 n] w λe w'=>e=.returned (.string ⟨(Z1x n).toArray⟩)/\Mod [] w w':=by refine Z1 (Z8 (J:=[.i n]) sxE_ok Tryz.func216 Zbc rfl rfl rfl ?_) rfl;simp only[Tree.goal,X.P,X.ev,SV.ev,CV.ev,Sc.ev,qz,QA,QB,QC,QD,QE,QF,QG,QH,QI,QJ,QK,QL,QM,Nat.reduceAdd];refine⟨[.s (numB 3 n)],rfl,λ_ w' _=>Z12h w' n 3 (by omega) (by omega) (by omega),?_⟩;simp only[Tree.goal,X.P,X.ev,SV.ev,CV.ev,Sc.ev,qz,QA,QB,QC,QD,QE,QF,QG,QH,QI,QJ,QK,QL,QM,Nat.reduceAdd];refine⟨[.s (Z1x n)],rfl,λ_ w' _=>Z131 w' _,?_⟩;simp only[Tree.goal,X.P,X.ev,SV.ev,CV.ev,Sc.ev,qz,QA,QB,QC,QD,QE,QF,QG,QH,QI,QJ,QK,QL,QM,Nat.reduceAdd];exact λw' hr=>⟨by trivial,hr.mod⟩
theorem Z7q:∀l:List UInt8,(l.dropWhile λc=>c == 0).length<=l.length
 | []=>Nat.le_refl _
 | c::l=>by have:=Z7q l;rw[List.dropWhile_cons];split<;>simp only[List.length_cons]<;>omega
theorem Zgy:∀(k n:Nat) (w:World),n<pw k->k<=7->Calls Tryz.prog 109 #[.int .i64 n] w λe w'=>e=.returned (.string ⟨((numB k (n:Int)).dropWhile λc=>c == 0).toArray⟩)/\Mod [] w w'
 | k,n,w,h,hk=>by
  have hp:pw k<=pw 7:=Zig hk;have hp7:pw 7=72057594037927936:=rfl;refine Z1 (Z8 (J:=[.i n]) (sxE_ok.joins _) Tryz.func109 Z5v rfl rfl rfl ?_) rfl;simp only[Tree.goal,X.P,X.ev,SV.ev,CV.ev,Sc.ev,qz,QA,QB,QC,QD,QE,QF,QG,QH,QI,QJ,QK,QL,QM,Nat.reduceAdd];refine⟨λh1 w' hr=>⟨?_,hr.mod⟩,λh1=>?_⟩
  ·rw[(Zaq k n h).2 (by omega)]
  obtain⟨k,rfl⟩:∃j,k=j+1:=by
   cases k with
   | zero=>exact absurd h (by show ¬n<1;omega)
   | succ j=>exact⟨j,rfl⟩
  (repeat refine⟨by omega,?_⟩)
  have hk2:n / 256<pw k:=by have h:n<256*pw k:=h;omega
  have hl:((numB k ((n / 256:Nat):Int)).dropWhile λc=>c == 0).length<=k:=by have:=Z7q (numB k ((n / 256:Nat):Int));rw[Z42]at this;exact this
  refine⟨[.s ((numB k ((n / 256:Nat):Int)).dropWhile λc=>c == 0)],rfl,λ_ w' _=>Zgy k (n / 256) w' hk2 (by omega),λv2=>?_⟩;simp only[Tree.goal,X.P,X.ev,SV.ev,CV.ev,Sc.ev,qz,QA,QB,QC,QD,QE,QF,QG,QH,QI,QJ,QK,QL,QM,Nat.reduceAdd];refine⟨by simp at hl⊢;omega,λw' hr=>⟨?_,hr.mod⟩⟩;rw[Zqm k n h,if_neg (by omega)];have e:UInt8.ofNat (n % 256)=UInt8.ofNat ((n:Int) % 256).toNat:=by congr 1
  simp[e,Value.gI]
theorem Zug(w:World)(n:Int)(h:0<=n/\n<=16777215):Calls Tryz.prog 109 #[.int .i64 n] w λe w'=>e=.returned (.string ⟨(Z1x n).toArray⟩)/\Mod [] w w':=by
 obtain⟨m,rfl⟩:∃m:Nat,n=m:=⟨n.toNat,by omega⟩
 exact Zgy 3 m w (by show m<16777216;omega) (by omega)
theorem Zkm(n:Int)(os:List Opt)(i:Nat)(h:i<os.length):Zh n (os.take (i+1))=Zh n (os.take i)++(if(os.getD i oD).1=n then[(os.getD i oD).2]else[]):=by
 rw[Z12z os i h,Zof];generalize os.getD i oD=o
 by_cases h1:o.1=n<;>simp[Zh,h1]
theorem Zdg(n:Int)(os:List Opt):(Zh n os).length<=os.length:=by rw[Zh,qy3];exact List.length_filter_le _ _
theorem Zgz{n:Int}{os:List Opt}{i:Nat}(h:i<os.length)(h1:∀j,j<i->(os.getD j oD).1≠n)(h2:(os.getD i oD).1=n):∃r,Zh n os=(os.getD i oD).2::r:=by
 have e:os=os.take i++os.drop i:=(List.take_append_drop i os).symm;have e0:Zh n (os.take i)=[]:=by refine Zkk λo ho=>?_;obtain⟨j,hj,rfl⟩:=List.getElem_of_mem ho;simp only[List.length_take]at hj;have:=h1 j (by omega);rw[qy1,qy7 (by omega)]at this;rw[List.getElem_take];exact this
 have e1:Zh n (os.drop i)=(os.getD i oD).2::Zh n (os.drop (i+1)):=by
  rw[Z12x os i h];generalize os.getD i oD=o at h2
  simp[Zh,List.filter_cons,h2]
 exact⟨_,by rw[e,Zof,<- e,e0,e1];rfl⟩
theorem Zoj{n:Int}{os:List Opt}(h:∀j,j<os.length->(os.getD j oD).1≠n):Zh n os=[]:=by refine Zkk λo ho=>?_;obtain⟨j,hj,rfl⟩:=List.getElem_of_mem ho;have:=h j hj;rwa [qy1,qy7 hj]at this
theorem Zyu(w:World)(m:Msg)(v:Value)(n:Int)(hv:Z2d w v m.opts)(hl:m.opts.length<1000000000) : Calls Tryz.prog 176 #[mV m (sc1 v),.int .i64 n] w λe w'=>e=.returned (.tuple #[.int .i64 (Z2a n m.opts).1,.int .i64 (Z2a n m.opts).2])/\Mod [] w w':=by
 refine Z1 (Z3 (J:=[.i m.kind,.i m.code,.i m.id,.s m.tok,.v v,.r (m.opts.map encO),.s m.pay,.i n]) sxE_ok Tryz.func176 Z9z rfl rfl (Rel.start2 (by simp[Ent.holds,Ent.wr,hv,X.ev])) rfl rfl ?_) rfl;simp only[Tree.goal,X.P,X.ev,SV.ev,CV.ev,Sc.ev,qz,QA,QB,QC,QD,QE,QF,QG,QH,QI,QJ,QK,QL,QM,Nat.reduceAdd,qy3,qy4,Z17,Z18,Zd];intro b1 b2;generalize m.opts=os at hl⊢
 refine⟨λvs=>∃(x:V) (i:Nat),vs=[x,.i i,.i n]/\i<=os.length/\∀j,j<i->(os.getD j oD).1≠n,λvs=>(os.length - (vs.getD 1 (.i 0)).toI).toNat,⟨_,0,rfl,by omega,λj hj=>by omega⟩,?_⟩;rintro _ - ⟨x,i,rfl,hi,hn⟩;simp only[Tree.goal,X.P,X.ev,SV.ev,CV.ev,Sc.ev,qz,QA,QB,QC,QD,QE,QF,QG,QH,QI,QJ,QK,QL,QM,Nat.reduceAdd,qy3,qy4,Z17,Z18,Zd];refine⟨λh1=>?_,λh1 w' hr=>⟨?_,hr.mod⟩⟩
 ·(repeat refine⟨by omega,?_⟩)
  intro b3;refine⟨λh2=>?_,λh2=>?_⟩
  ·obtain⟨r,e⟩:=Zgz (by omega) hn h2;have eu:Z2a n os=Zfu (os.getD i oD).2:=by rw[Z2a,e]
   rw[eu];generalize (os.getD i oD).2=s
   refine⟨λh3=>by omega,λ_=>⟨λh3 w' hr=>⟨by rw[Zfu,if_pos h3],hr.mod⟩,λh3=>⟨λh4 w' hr=>⟨by subst h4;rfl,hr.mod⟩,λh4=>?_⟩⟩⟩;have eg:getR s 0 s.length=Zfu s:=by have:=List.length_pos_iff.2 h4;rw[getR,if_pos (by omega),if_pos (by omega),if_neg (by omega),Zfu,if_neg h3];simp
   refine⟨[.i (Zfu s).1,.i (Zfu s).2],rfl,λ_ w' _=>?_,?_⟩
   ·have:=Z12l w' s 0 s.length (by omega);rw[eg]at this;exact this
   ·simp only[Tree.goal,X.P,X.ev,SV.ev,CV.ev,Sc.ev,qz,QA,QB,QC,QD,QE,QF,QG,QH,QI,QJ,QK,QL,QM,Nat.reduceAdd];exact λw' hr=>⟨by trivial,hr.mod⟩
  ·(repeat refine⟨by omega,?_⟩)
   refine⟨⟨_,i+1,rfl,by omega,λj hj=>?_⟩,by omega⟩;by_cases hji:j=i
   ·subst hji;exact h2
   ·exact hn j (by omega)
 ·rw[Z2a,Zoj λj hj=>hn j (by omega)]
theorem Zuh(s:List UInt8)(k:Nat)(h:k<s.length):beN (s.take (k+1)) 0=256*beN (s.take k) 0+(s.getD k 0).toNat:=by rw[List.take_add_one,qy7 h,qy1,qy7 h];exact Zih _ _ _
theorem Zui(w:World)(m:Msg)(v:Value)(n:Int)(hv:Z2d w v m.opts)(hl:m.opts.length<1000000000) : Calls Tryz.prog 78 #[mV m (sc1 v),.int .i64 n] w λe w'=>e=.returned (.tuple #[.int .i64 (Z2a n m.opts).1,.int .i64 (Z2a n m.opts).2])/\Mod [] w w':=by
 refine Z1 (Z3 (J:=[.i m.kind,.i m.code,.i m.id,.s m.tok,.v v,.r (m.opts.map encO),.s m.pay,.i n]) sxE_ok Tryz.func78 Z6o rfl rfl (Rel.start2 (by simp[Ent.holds,Ent.wr,hv,X.ev])) rfl rfl ?_) rfl;simp only[Tree.goal,X.P,X.ev,SV.ev,CV.ev,Sc.ev,qz,QA,QB,QC,QD,QE,QF,QG,QH,QI,QJ,QK,QL,QM,Nat.reduceAdd,qy3,qy4,Z17,Z18,Zd];intro b1;generalize m.opts=os at hl⊢
 refine⟨λvs=>∃(x y:V) (i:Nat),vs=[x,y,.i i]/\i<=os.length/\∀j,j<i->(os.getD j oD).1≠n,λvs=>(os.length - (vs.getD 2 (.i 0)).toI).toNat,⟨_,_,0,rfl,by omega,λj hj=>by omega⟩,?_⟩;rintro _ - ⟨x,y,i,rfl,hi,hn⟩;simp only[Tree.goal,X.P,X.ev,SV.ev,CV.ev,Sc.ev,qz,QA,QB,QC,QD,QE,QF,QG,QH,QI,QJ,QK,QL,QM,Nat.reduceAdd,qy3,qy4,Z17,Z18,Zd];refine⟨λh1=>?_,λh1 w' hr=>⟨?_,hr.mod⟩⟩
 ·(repeat refine⟨by omega,?_⟩)
  refine⟨λh2=>?_,λh2=>?_⟩
  ·(repeat refine⟨by omega,?_⟩)
   refine⟨⟨_,_,i+1,rfl,by omega,λj hj=>?_⟩,by omega⟩;by_cases hji:j=i
   ·subst hji;exact h2
   ·exact hn j (by omega)
  ·obtain⟨r,e⟩:=Zgz (by omega) hn (qy9.1 h2);have eu:Z2a n os=Zfu (os.getD i oD).2:=by rw[Z2a,e]
   rw[eu];generalize (os.getD i oD).2=s
   refine⟨λh3 w' hr=>⟨by rw[Zfu,if_pos h3],hr.mod⟩,λh3=>?_⟩;refine⟨λvs=>∃k:Nat,vs=[.i (beN (s.take k) 0:Nat),.i k]/\k<=s.length,λvs=>(s.length - (vs.getD 1 (.i 0)).toI).toNat,⟨0,rfl,by omega⟩,?_⟩;rintro _ - ⟨k,rfl,hk⟩;simp only[Tree.goal,X.P,X.ev,SV.ev,CV.ev,Sc.ev,qz,QA,QB,QC,QD,QE,QF,QG,QH,QI,QJ,QK,QL,QM,Nat.reduceAdd,qy3,qy4,Z17,Z18,Zd];have hb:=Z10h (s.take k) 0;rw[Nat.zero_add,Nat.one_mul]at hb;have hp:pw (s.take k).length<=pw 3:=Zig (by rw[List.length_take];omega);have hp3:pw 3=16777216:=rfl;refine⟨λh4=>?_,λh4 w' hr=>⟨?_,hr.mod⟩⟩
   ·have hc:=Z14r (s.getD k 0)
    (repeat refine⟨by omega,?_⟩)
    refine⟨⟨k+1,?_,by omega⟩,by omega⟩;rw[Zuh s k (by omega)];rfl
   ·have:k=s.length:=by omega
    subst this;rw[List.take_length,Zfu,if_neg h3]
 ·rw[Z2a,Zoj λj hj=>hn j (by omega)]
theorem Zca:∀(l:List (List UInt8)) (x:List UInt8),Z2v (l++[x])=if l=[]then x else Z2v l++47::x
 | [],x=>rfl
 | [y],x=>by simp[Z2v]
 | y::z::l,x=>by have:=Zca (z::l) x;rw[if_neg (by simp)]at this;rw[if_neg (by simp)];simp only[List.cons_append,Z2v]at this⊢;rw[this];simp
theorem Z6y(b:Nat):∀(l:List (List UInt8)),(∀x∈l,x.length<=b)->(Z2v l).length<=l.length*(b+1)
 | [],_=>by simp[Z2v]
 | [y],h=>by have:=h y (by simp);simp[Z2v];omega
 | y::z::l,h=>by have h1:=Z6y b (z::l) λx hx=>h x (qy10 _ hx);have h2:=h y (by simp);simp only[Z2v,qy11,List.length_cons,Nat.add_mul]at h1⊢;omega
theorem Zas:∀{os:List Opt} {was:Int},optE was os=0->∀o∈os,o.2.length<=60
 | [],_,_,o,ho=>by simp at ho
 | x::os,was,h,o,ho=>by
  obtain⟨-,-,h3,h4⟩:=Zub.1 h;rcases List.mem_cons.1 ho with rfl|ho
  ·exact h3
  ·exact Zas h4 o ho
theorem Zim{n:Int}{os:List Opt}{x:List UInt8}(h:x∈Zh n os):∃o∈os,o.2=x:=by simp only[Zh,List.mem_map,List.mem_filter]at h;obtain⟨o,⟨h1,-⟩,h2⟩:=h;exact⟨o,h1,h2⟩
theorem Z6z:∀s:List UInt8,(1<(lev s).length)↔(s.any λc=>c == 47)=true
 | []=>by simp[lev]
 | c::s=>by
  have ih:=Z6z s;by_cases h:c=47
  ·subst h;obtain⟨y,ys,e⟩:=Zge s;rw[Z5y,e];simp
  ·obtain⟨y,ys,e⟩:=Zge s;rw[Z4m _ h,e];rw[e]at ih;simpa[glue,h]using ih
theorem Zkn{os:List Opt}(h:Zh 11 os=[]):Z10 os=([],5):=if_pos h
theorem Zok{os:List Opt}(h:¬Zh 11 os=[])(h1:¬chkT (Z2v (Zh 11 os)) false=0):Z10 os=([],chkT (Z2v (Zh 11 os)) false):=by rw[Z10,if_neg h,if_neg h1]
theorem Zko{os:List Opt}(h:¬Zh 11 os=[])(h1:chkT (Z2v (Zh 11 os)) false=0)(h2:(Zh 11 os).any (λv=>v.any λc=>c == 47)=true):Z10 os=([],1):=by rw[Z10,if_neg h,if_pos h1,if_pos h2]
theorem Zkp{os:List Opt}(h:¬Zh 11 os=[])(h1:chkT (Z2v (Zh 11 os)) false=0)(h2:¬(Zh 11 os).any (λv=>v.any λc=>c == 47)=true):Z10 os=(Z2v (Zh 11 os),0):=by rw[Z10,if_neg h,if_pos h1,if_neg h2]
theorem Zyv(w:World)(m:Msg)(v:Value)(hv:Z2d w v m.opts)(hc:chk m=0) : Calls Tryz.prog 140 #[mV m (sc1 v)] w λe w'=>e=.returned (.tuple #[.string ⟨(Z10 m.opts).1.toArray⟩,.int .i64 (Z10 m.opts).2])/\Mod [] w w':=by
 obtain⟨-,-,hl,ho,-⟩:=Z7x.1 hc;refine Z1 (Z3 (J:=[.i m.kind,.i m.code,.i m.id,.s m.tok,.v v,.r (m.opts.map encO),.s m.pay]) sxE_ok Tryz.func140 Za0 rfl rfl (Rel.start2 (by simp[Ent.holds,Ent.wr,hv,X.ev])) rfl rfl ?_) rfl;simp only[Tree.goal,X.P,X.ev,SV.ev,CV.ev,Sc.ev,qz,QA,QB,QC,QD,QE,QF,QG,QH,QI,QJ,QK,QL,QM,Nat.reduceAdd,qy3,qy4,Z17,Z18,Zd];intro b1;replace hl:=hl.2.1;generalize m.opts=os at hl ho⊢
 have hvl:=Zdg 11 os;have hul:(Z2v (Zh 11 os)).length<=12*61:=Nat.le_trans (Z6y 60 _ λx hx=>by obtain⟨o,h1,rfl⟩:=Zim hx;exact Zas ho o h1) (by omega);refine⟨λvs=>∃(s:Value) (i:Nat),vs=[.v s,.r ((Zh 11 (os.take i)).map Z15),.b ((Zh 11 (os.take i)).any λv=>v.any λc=>c == 47),.i i]/\i<=os.length,λvs=>(os.length - (vs.getD 3 (.i 0)).toI).toNat,⟨_,0,rfl,by omega⟩,?_⟩;rintro _ - ⟨s,i,rfl,hi⟩;simp only[Tree.goal,X.P,X.ev,SV.ev,CV.ev,Sc.ev,qz,QA,QB,QC,QD,QE,QF,QG,QH,QI,QJ,QK,QL,QM,Nat.reduceAdd,qy3,qy4,Z17,Z18,Zd];refine⟨λh1=>?_,λh1=>?_⟩
 ·have hs:=Zkm 11 os i (by omega);have hvi:=Zdg 11 (os.take i);rw[List.length_take]at hvi
  (repeat refine⟨by omega,?_⟩)
  intro b2;refine⟨λh2 v1=>⟨by simp;omega,λv2=>?_⟩,λh2=>?_⟩
  ·rw[if_pos h2]at hs;refine⟨[.b ((os.getD i oD).2.any λc=>c == 47)],rfl,λ_ w' _=>Z179 w' _,?_⟩;simp only[Tree.goal,X.P,X.ev,SV.ev,CV.ev,Sc.ev,qz,QA,QB,QC,QD,QE,QF,QG,QH,QI,QJ,QK,QL,QM,Nat.reduceAdd,qy3,qy4,Z17,Z18,Zd];refine⟨by omega,by omega,⟨v2,i+1,?_,by omega⟩,by omega⟩;rw[hs];simp[Z15]
  ·rw[if_neg h2,List.append_nil]at hs
   (repeat refine⟨by omega,?_⟩)
   exact⟨⟨s,i+1,by rw[hs];rfl,by omega⟩,by omega⟩
 ·have:i=os.length:=by omega
  subst this;rw[List.take_length];refine⟨λh2 w' hr=>⟨?_,hr.mod⟩,λh2=>?_⟩
  ·rw[Zkn (List.length_eq_zero_iff.1 (by omega))]
  have h2:¬Zh 11 os=[]:=λh=>h2 (by rw[h];rfl);refine⟨[.s (Z2v (Zh 11 os))],rfl,λ_ w' hr=>Zyt w' s _ (hr.at_ 0 rfl) (by omega) (by omega),?_⟩;simp only[Tree.goal,X.P,X.ev,SV.ev,CV.ev,Sc.ev,qz,QA,QB,QC,QD,QE,QF,QG,QH,QI,QJ,QK,QL,QM,Nat.reduceAdd];refine⟨[.i (chkT (Z2v (Zh 11 os)) false)],rfl,λ_ w' hr=>Zjt w' _ (by omega),?_⟩;simp only[Tree.goal,X.P,X.ev,SV.ev,CV.ev,Sc.ev,qz,QA,QB,QC,QD,QE,QF,QG,QH,QI,QJ,QK,QL,QM,Nat.reduceAdd];refine⟨λh3=>⟨λ_ w' hr=>⟨?_,hr.mod⟩,λh=>(h (by decide)).elim⟩,λh3=>⟨λh4 w' hr=>⟨?_,hr.mod⟩,λh4 w' hr=>⟨?_,hr.mod⟩⟩⟩
  ·rw[Zko h2 h3.1 h3.2]
  ·rw[Zok h2 h4]
  ·have h4:=qy9.1 h4;rw[Zkp h2 h4 λh=>h3 ⟨h4,h⟩]
theorem Zuj(w:World)(m:Msg)(v:Value)(hv:Z2d w v m.opts)(hc:chk m=0) : Calls Tryz.prog 77 #[mV m (sc1 v)] w λe w'=>e=.returned (.tuple #[.string ⟨(Z10 m.opts).1.toArray⟩,.int .i64 (Z10 m.opts).2])/\Mod [] w w':=by
 obtain⟨-,-,hl,ho,-⟩:=Z7x.1 hc;refine Z1 (Z3 (J:=[.i m.kind,.i m.code,.i m.id,.s m.tok,.v v,.r (m.opts.map encO),.s m.pay]) sxE_ok Tryz.func77 Z6n rfl rfl (Rel.start2 (by simp[Ent.holds,Ent.wr,hv,X.ev])) rfl rfl ?_) rfl;simp only[Tree.goal,X.P,X.ev,SV.ev,CV.ev,Sc.ev,qz,QA,QB,QC,QD,QE,QF,QG,QH,QI,QJ,QK,QL,QM,Nat.reduceAdd,qy3,qy4,Z17,Z18,Zd];intro b1;replace hl:=hl.2.1;generalize m.opts=os at hl ho⊢
 have hvl:=Zdg 11 os;have hul:(Z2v (Zh 11 os)).length<=12*61:=Nat.le_trans (Z6y 60 _ λx hx=>by obtain⟨o,h1,rfl⟩:=Zim hx;exact Zas ho o h1) (by omega);refine⟨λvs=>∃i:Nat,vs=[.s (Z2v (Zh 11 (os.take i))),.i (Zh 11 (os.take i)).length,.b ((Zh 11 (os.take i)).any λv=>v.any λc=>c == 47),.i i]/\i<=os.length,λvs=>(os.length - (vs.getD 3 (.i 0)).toI).toNat,⟨0,rfl,by omega⟩,?_⟩;rintro _ - ⟨i,rfl,hi⟩;simp only[Tree.goal,X.P,X.ev,SV.ev,CV.ev,Sc.ev,qz,QA,QB,QC,QD,QE,QF,QG,QH,QI,QJ,QK,QL,QM,Nat.reduceAdd,qy3,qy4,Z17,Z18,Zd];refine⟨λh1=>?_,λh1=>?_⟩
 ·have hs:=Zkm 11 os i (by omega);have hvi:=Zdg 11 (os.take i);rw[List.length_take]at hvi;have hui:(Z2v (Zh 11 (os.take i))).length<=12*61:=Nat.le_trans (Z6y 60 _ λx hx=>by obtain⟨o,h1,rfl⟩:=Zim hx;exact Zas ho o (List.mem_of_mem_take h1)) (by omega);have hval:(os.getD i oD).2.length<=60:=Zas ho _ (by rw[qy1,qy7 (by omega)];exact List.getElem_mem _)
  (repeat refine⟨by omega,?_⟩)
  refine⟨λh2=>?_,λh2=>?_⟩
  ·rw[if_neg h2,List.append_nil]at hs
   (repeat refine⟨by omega,?_⟩)
   exact⟨⟨i+1,by rw[hs];rfl,by omega⟩,by omega⟩
  rw[if_pos (qy9.1 h2)]at hs;generalize Zh 11 (os.take i)=l at hs hvi hui⊢
  generalize (os.getD i oD).2=x at hs hval⊢
  have hus:=Zca l x;refine⟨λh3=>?_,λh3=>?_⟩
  ·rw[if_neg (λh=>by rw[h]at h3;simp at h3)]at hus;refine⟨by omega,by simp;omega,by omega,by omega,λh4=>?_,λh4 w1 hr=>?_⟩
   ·refine⟨by omega,by omega,⟨i+1,?_,by omega⟩,by omega⟩;rw[hs,hus,List.any_append,h4];simp
   ·refine(Z5z w1 x (by omega)).mono ?_;rintro e w2 ⟨v1,rfl,r1,f1,m1⟩;refine⟨[.v v1,.r ((lev x).map Z15)],rfl,rfl,m1,qy5 _,qy2.2 ⟨⟨r1,λk hk=>.inl (f1 k hk)⟩,qy5 _⟩,Z5,?_⟩;simp only[Tree.goal,X.P,X.ev,SV.ev,CV.ev,Sc.ev,qz,QA,QB,QC,QD,QE,QF,QG,QH,QI,QJ,QK,QL,QM,Nat.reduceAdd,qy3,qy4,Z17,Z18,Zd];refine⟨by omega,by omega,⟨i+1,?_,by omega⟩,by omega⟩;have e2:decide ((1:Int)<((lev x).length:Int))=x.any λc=>c == 47:=by rw[Bool.eq_iff_iff,decide_eq_true_eq,<- Z6z];omega
    rw[hs,hus,List.any_append,Bool.eq_false_iff.2 h4,e2];simp
  ·have hl0:l=[]:=List.length_eq_zero_iff.1 (by omega);subst hl0;rw[if_pos rfl]at hus;refine⟨by simp[Z2v];omega,by simp,by simp,λh4=>by simp at h4,λh4 w1 hr=>?_⟩;refine(Z5z w1 x (by omega)).mono ?_;rintro e w2 ⟨v1,rfl,r1,f1,m1⟩;refine⟨[.v v1,.r ((lev x).map Z15)],rfl,rfl,m1,qy5 _,qy2.2 ⟨⟨r1,λk hk=>.inl (f1 k hk)⟩,qy5 _⟩,Z5,?_⟩;simp only[Tree.goal,X.P,X.ev,SV.ev,CV.ev,Sc.ev,qz,QA,QB,QC,QD,QE,QF,QG,QH,QI,QJ,QK,QL,QM,Nat.reduceAdd,qy3,qy4,Z17,Z18,Zd];refine⟨by omega,by omega,⟨i+1,?_,by omega⟩,by omega⟩;have e2:decide ((1:Int)<((lev x).length:Int))=x.any λc=>c == 47:=by rw[Bool.eq_iff_iff,decide_eq_true_eq,<- Z6z];omega
   rw[hs,hus,e2];simp[Z2v]
 ·have:i=os.length:=by omega
  subst this;rw[List.take_length];refine⟨λh2 w' hr=>⟨?_,hr.mod⟩,λh2=>?_⟩
  ·rw[Zkn (List.length_eq_zero_iff.1 (by omega))]
  have h2:¬Zh 11 os=[]:=λh=>h2 (by rw[h];rfl);refine⟨[.i (chkT (Z2v (Zh 11 os)) false)],rfl,λ_ w' hr=>Z3c w' _ false (by omega),?_⟩;simp only[Tree.goal,X.P,X.ev,SV.ev,CV.ev,Sc.ev,qz,QA,QB,QC,QD,QE,QF,QG,QH,QI,QJ,QK,QL,QM,Nat.reduceAdd];refine⟨λh3=>⟨λ_ w' hr=>⟨?_,hr.mod⟩,λh=>(h (by decide)).elim⟩,λh3=>⟨λh4 w' hr=>⟨?_,hr.mod⟩,λh4 w' hr=>⟨?_,hr.mod⟩⟩⟩
  ·rw[Zko h2 h3.1 h3.2]
  ·rw[Zok h2 h4]
  ·have h4:=qy9.1 h4;rw[Zkp h2 h4 λh=>h3 ⟨h4,h⟩,h4]
def Z15h(n:Nat)(v:Value)(os:List Opt):Prop:=∀k,(os.map encO).flatten≠[]/\Z2 v k->n<=k
theorem Zin(w:World)(m n:Msg)(u v:Value)(hu:Z2d w u m.opts)(hv:Z2d w v n.opts)(hl:m.opts.length<1099511627776):Calls Tryz.prog 136 #[mV m (sc1 u),mV n (sc1 v)] w λe w'=>e=.returned (.bool (decide (m.kind=n.kind/\m.code=n.code/\m.id=n.id/\m.tok=n.tok/\m.pay=n.pay/\m.opts=n.opts)))/\Mod [] w w':=by
 refine Z1 (Z3 (J:=[.i m.kind,.i m.code,.i m.id,.s m.tok,.v u,.r (m.opts.map encO),.s m.pay,.i n.kind,.i n.code,.i n.id,.s n.tok,.v v,.r (n.opts.map encO),.s n.pay]) sxE_ok Tryz.func136 Z3w rfl rfl (Rel.start2 (by simp[Ent.holds,Ent.wr,hu,hv,X.ev])) rfl rfl ?_) rfl;simp only[Tree.goal,X.P,X.ev,SV.ev,CV.ev,Sc.ev,qz,QA,QB,QC,QD,QE,QF,QG,QH,QI,QJ,QK,QL,QM,Nat.reduceAdd,qy3];intro b1 b2;refine⟨λh w' hr=>⟨?_,hr.mod⟩,λh=>?_⟩
 ·rw[decide_eq_false];rintro⟨h1,h2,h3,h4,h5,h6⟩;rcases h with((((h|h)|h)|h)|h)|h
  ·exact h h1
  ·exact h h2
  ·exact h h3
  ·exact h h4
  ·exact h h5
  ·exact h (by rw[h6])
 ·simp only[not_or,qy9]at h;obtain⟨⟨⟨⟨⟨h1,h2⟩,h3⟩,h4⟩,h5⟩,h6⟩:=h;have hlen:m.opts.length=n.opts.length:=by omega
  refine⟨λvs=>∃(i:Nat) (x:V),vs=[x,.i i]/\i<=m.opts.length/\∀j,j<i->m.opts.getD j oD=n.opts.getD j oD,λvs=>(m.opts.length - (vs.getD 1 (.i 0)).toI).toNat,⟨0,_,rfl,by omega,λj hj=>by omega⟩,?_⟩;rintro _ - ⟨i,x,rfl,hi,hall⟩;simp only[Tree.goal,X.P,X.ev,SV.ev,CV.ev,Sc.ev,qz,QA,QB,QC,QD,QE,QF,QG,QH,QI,QJ,QK,QL,QM,Nat.reduceAdd,qy3,qy4,Z17,Z18];refine⟨λh7=>⟨by omega,by omega,λh8 w' hr=>⟨?_,hr.mod⟩,λh8=>⟨by omega,by omega,⟨i+1,x,rfl,by omega,λj hj=>?_⟩,by omega⟩⟩,λh7 w' hr=>⟨?_,hr.mod⟩⟩
  ·rw[decide_eq_false];rintro⟨-,-,-,-,-,h9⟩;rw[h9]at h8;exact h8 ⟨rfl,rfl⟩
  ·by_cases hji:j=i
   ·subst hji;have:=qy9.1 h8;exact Prod.ext this.1 this.2
   ·exact hall j (by omega)
  ·rw[decide_eq_true];refine⟨h1,h2,h3,h4,h5,List.ext_getElem? λj=>?_⟩;by_cases hj:j<m.opts.length
   ·have:=hall j (by omega);rw[qy1,qy1,qy7 hj,qy7 (by omega)]at this;rw[qy7 hj,qy7 (by omega)];simpa using this
   ·rw[List.getElem?_eq_none (by omega),List.getElem?_eq_none (by omega)]
def mGet:Msg:=⟨0,1,258,[116],[(6,[]),(11,[97]),(11,[98])],[]⟩
theorem Z132(w:World):Calls Tryz.prog 50 #[] w λe w'=>∃v,e=.returned (mV mGet (sc1 v))/\Z2d w' v mGet.opts/\Z15h w.heap.size v mGet.opts/\Mod [] w w':=by
 refine Z1 (Z8 (J:=[]) sxE_ok Tryz.func50 Z8m rfl rfl rfl ?_) rfl;simp only[Tree.goal,X.P,X.ev,SV.ev,CV.ev,Sc.ev,qz,QA,QB,QC,QD,QE,QF,QG,QH,QI,QJ,QK,QL,QM,Nat.reduceAdd];intro b v w' hr;refine⟨v,rfl,owns.reads (hr.at_ 0 rfl),λk hk=>?_,hr.mod⟩;rcases hr.own _ (qy8 ..) rfl k hk.2 with h|h
 ·exact h
 ·simp at h
theorem Zuk{J:List V}{es:List Ent}(h:∀e∈es,e.wr=false):Z2o J es:=by refine List.pairwise_iff_forall_sublist.2 λ{a b} hs hw=>?_;have h1:=h a (hs.subset (by simp));have h2:=h b (hs.subset (by simp));rw[h1,h2]at hw;simp at hw
section
variable (w:World) (p:Pkt) (u v:Value) (hu:Z7a w u p.asks) (hv:Z64 w v p.codes) (hs:SmallP p)
include hu hv
theorem Z133:Calls Tryz.prog 84 #[pV p u v] w λe w'=>∃x y,e=.returned (pV (Z27 p) x y)/\Z7a w' x (Z27 p).asks/\Z64 w' y (Z27 p).codes /\ (x=u/\(Z27 p).asks=p.asks\/(Z27 p).asks=[])/\(y=v/\(Z27 p).codes=p.codes\/(Z27 p).codes=[])/\Mod [] w w':=by
 refine Z1 (Z3 (J:=[.i p.kind,.b p.dup,.b p.retain,.b p.clean,.b p.session,.i p.qos,.i p.id,.i p.keep,.i p.code,.s p.client,.s p.topic,.s p.payload,.v u,.r (p.asks.map encA),.v v,.r (p.codes.map Z1i)]) sxE_ok Tryz.func84 Zcq rfl rfl (Rel.start2 (by simp[Ent.holds,Ent.wr,hu,hv,X.ev])) rfl rfl ?_) rfl;simp only[Tree.goal,X.P,X.ev,SV.ev,CV.ev,Sc.ev,qz,QA,QB,QC,QD,QE,QF,QG,QH,QI,QJ,QK,QL,QM,Nat.reduceAdd];intro b1 b2;have g4:∀q:Pkt,q.kind=p.kind->p.kind≠1->p.kind≠2->p.kind≠3->(p.kind=4\/p.kind=11)->Z27 p={ p with id:=0 }:=λq _ h1 h2 h3 h=>by rw[Z27,if_neg h1,if_neg h2,if_neg h3,if_pos h]
 have g8:p.kind≠1->p.kind≠2->p.kind≠3->¬(p.kind=4\/p.kind=11)->(p.kind=8\/p.kind=10)->Z27 p={ p with id:=0,asks:=[] }:=λh1 h2 h3 h4 h=>by rw[Z27,if_neg h1,if_neg h2,if_neg h3,if_neg h4,if_pos h]
 refine⟨λh1 w' hr=>?_,λh1=>⟨λh2 w' hr=>?_,λh2=>⟨λh3 w' hr=>?_,λh3=>⟨λh4 w' hr=>?_,λh4=>⟨λh5 w' hr=>?_,λh5=>⟨λh6 w' hr=>?_,λh6=>⟨λh7 w' hr=>?_,λh7=>⟨λh8 w' hr=>?_,λh8 w' hr=>?_⟩⟩⟩⟩⟩⟩⟩⟩
 ·have e:Z27 p={ p with client:=[],clean:=false,keep:=0 }:=by rw[Z27,if_pos h1]
  rw[e];exact⟨u,v,rfl,hr.at_ 2 rfl,hr.at_ 3 rfl,.inl ⟨rfl,rfl⟩,.inl ⟨rfl,rfl⟩,hr.mod⟩
 ·have e:Z27 p={ p with code:=0,session:=false }:=by rw[Z27,if_neg h1,if_pos h2]
  rw[e];exact⟨u,v,rfl,hr.at_ 2 rfl,hr.at_ 3 rfl,.inl ⟨rfl,rfl⟩,.inl ⟨rfl,rfl⟩,hr.mod⟩
 ·have e:Z27 p={ p with dup:=false,qos:=0,retain:=false,topic:=[],payload:=[],id:=0 }:=by rw[Z27,if_neg h1,if_neg h2,if_pos h3]
  rw[e];exact⟨u,v,rfl,hr.at_ 2 rfl,hr.at_ 3 rfl,.inl ⟨rfl,rfl⟩,.inl ⟨rfl,rfl⟩,hr.mod⟩
 ·rw[g4 p rfl h1 h2 h3 (.inl h4)];exact⟨u,v,rfl,hr.at_ 2 rfl,hr.at_ 3 rfl,.inl ⟨rfl,rfl⟩,.inl ⟨rfl,rfl⟩,hr.mod⟩
 ·rw[g4 p rfl h1 h2 h3 (.inr h5)];exact⟨u,v,rfl,hr.at_ 2 rfl,hr.at_ 3 rfl,.inl ⟨rfl,rfl⟩,.inl ⟨rfl,rfl⟩,hr.mod⟩
 ·rw[g8 h1 h2 h3 (by omega) (.inl h6)];exact⟨.slice none 0 0,v,rfl,Zgt _,hr.at_ 3 rfl,.inr rfl,.inl ⟨rfl,rfl⟩,hr.mod⟩
 ·rw[g8 h1 h2 h3 (by omega) (.inr h7)];exact⟨.slice none 0 0,v,rfl,Zgt _,hr.at_ 3 rfl,.inr rfl,.inl ⟨rfl,rfl⟩,hr.mod⟩
 ·have e:Z27 p={ p with id:=0,codes:=[] }:=by rw[Z27,if_neg h1,if_neg h2,if_neg h3,if_neg (by omega),if_neg (by omega),if_pos h8]
  rw[e];exact⟨u,.slice none 0 0,rfl,hr.at_ 2 rfl,Zqd _,.inl ⟨rfl,rfl⟩,.inr rfl,hr.mod⟩
 ·have e:Z27 p=p:=by rw[Z27,if_neg h1,if_neg h2,if_neg h3,if_neg (by omega),if_neg (by omega),if_neg h8]
  rw[e];exact⟨u,v,rfl,hr.at_ 2 rfl,hr.at_ 3 rfl,.inl ⟨rfl,rfl⟩,.inl ⟨rfl,rfl⟩,hr.mod⟩
include hs
theorem Zdh:Calls Tryz.prog 88 #[pV p u v] w λe w'=>e=.returned (.int .i64 (Z2c p))/\Mod [] w w':=by
 refine Z1 (Z3 (J:=[.i p.kind,.b p.dup,.b p.retain,.b p.clean,.b p.session,.i p.qos,.i p.id,.i p.keep,.i p.code,.s p.client,.s p.topic,.s p.payload,.v u,.r (p.asks.map encA),.v v,.r (p.codes.map Z1i)]) sxE_ok Tryz.func88 Zbe rfl rfl (Rel.start2 (by simp[Ent.holds,Ent.wr,hu,hv,X.ev])) rfl rfl ?_) rfl;simp only[Tree.goal,X.P,X.ev,SV.ev,CV.ev,Sc.ev,qz,QA,QB,QC,QD,QE,QF,QG,QH,QI,QJ,QK,QL,QM,Nat.reduceAdd];intro b;refine⟨λh1=>?_,λh1=>⟨λh2=>?_,λh2=>⟨λh3=>?_,λh3=>⟨λh4=>?_,λh4=>⟨λh5=>?_,λh5=>⟨λh6=>?_,λh6 w' hr=>⟨?_,hr.mod⟩⟩⟩⟩⟩⟩⟩
 ·refine⟨[.i (Zkc p)],rfl,λ_ w' hr=>Zqf w' p u v (hr.at_ 1 rfl) (hr.at_ 2 rfl) hs,?_⟩;simp only[Tree.goal,X.P,X.ev,SV.ev,CV.ev,Sc.ev,qz,QA,QB,QC,QD,QE,QF,QG,QH,QI,QJ,QK,QL,QM,Nat.reduceAdd];exact λw' hr=>⟨by rw[Z2c,if_pos h1],hr.mod⟩
 ·refine⟨[.i (Z6x p)],rfl,λ_ w' hr=>Zqe w' p u v (hr.at_ 1 rfl) (hr.at_ 2 rfl),?_⟩;simp only[Tree.goal,X.P,X.ev,SV.ev,CV.ev,Sc.ev,qz,QA,QB,QC,QD,QE,QF,QG,QH,QI,QJ,QK,QL,QM,Nat.reduceAdd];exact λw' hr=>⟨by rw[Z2c,if_neg h1,if_pos h2],hr.mod⟩
 ·refine⟨[.i (pubE p)],rfl,λ_ w' hr=>Zgu w' p u v (hr.at_ 1 rfl) (hr.at_ 2 rfl) hs,?_⟩;simp only[Tree.goal,X.P,X.ev,SV.ev,CV.ev,Sc.ev,qz,QA,QB,QC,QD,QE,QF,QG,QH,QI,QJ,QK,QL,QM,Nat.reduceAdd];exact λw' hr=>⟨by rw[Z2c,if_neg h1,if_neg h2,if_pos h3],hr.mod⟩
 ·refine⟨[.i (Zii p)],rfl,λ_ w' hr=>Ztz w' p u v (hr.at_ 1 rfl) (hr.at_ 2 rfl) hs,?_⟩;simp only[Tree.goal,X.P,X.ev,SV.ev,CV.ev,Sc.ev,qz,QA,QB,QC,QD,QE,QF,QG,QH,QI,QJ,QK,QL,QM,Nat.reduceAdd];exact λw' hr=>⟨by rw[Z2c,if_neg h1,if_neg h2,if_neg h3,if_pos (.inl h4)],hr.mod⟩
 ·refine⟨[.i (Zii p)],rfl,λ_ w' hr=>Ztz w' p u v (hr.at_ 1 rfl) (hr.at_ 2 rfl) hs,?_⟩;simp only[Tree.goal,X.P,X.ev,SV.ev,CV.ev,Sc.ev,qz,QA,QB,QC,QD,QE,QF,QG,QH,QI,QJ,QK,QL,QM,Nat.reduceAdd];exact λw' hr=>⟨by rw[Z2c,if_neg h1,if_neg h2,if_neg h3,if_pos (.inr h5)],hr.mod⟩
 ·refine⟨[.i (Zgr p)],rfl,λ_ w' hr=>Zyj w' p u v (hr.at_ 1 rfl) (hr.at_ 2 rfl) hs,?_⟩;simp only[Tree.goal,X.P,X.ev,SV.ev,CV.ev,Sc.ev,qz,QA,QB,QC,QD,QE,QF,QG,QH,QI,QJ,QK,QL,QM,Nat.reduceAdd];exact λw' hr=>⟨by rw[Z2c,if_neg h1,if_neg h2,if_neg h3,if_neg (by omega),if_pos h6],hr.mod⟩
 ·rw[Z2c,if_neg h1,if_neg h2,if_neg h3,if_neg (by omega),if_neg h6]
theorem Zyw:Calls Tryz.prog 19 #[pV p u v] w λe w'=>e=.returned (.int .i64 (chkP p))/\Mod [] w w':=by
 refine Z1 (Z3 (J:=[.i p.kind,.b p.dup,.b p.retain,.b p.clean,.b p.session,.i p.qos,.i p.id,.i p.keep,.i p.code,.s p.client,.s p.topic,.s p.payload,.v u,.r (p.asks.map encA),.v v,.r (p.codes.map Z1i)]) sxE_ok Tryz.func19 Zbg rfl rfl (Rel.start2 (by simp[Ent.holds,Ent.wr,hu,hv,X.ev])) rfl rfl ?_) rfl;simp only[Tree.goal,X.P,X.ev,SV.ev,CV.ev,Sc.ev,qz,QA,QB,QC,QD,QE,QF,QG,QH,QI,QJ,QK,QL,QM,Nat.reduceAdd];intro b;refine⟨[.b (Zm7 p.kind)],rfl,λ_ w' _=>Z12o w' _,?_⟩;simp only[Tree.goal,X.P,X.ev,SV.ev,CV.ev,Sc.ev,qz,QA,QB,QC,QD,QE,QF,QG,QH,QI,QJ,QK,QL,QM,Nat.reduceAdd];refine⟨λh w' hr=>⟨by rw[chkP,if_neg h],hr.mod⟩,λh=>?_⟩;have h:=qy9.1 h;rw[chkP,if_pos h];intro w1 hr;refine(Z133 w1 p u v (hr.at_ 1 rfl) (hr.at_ 2 rfl)).mono ?_;rintro e w2 ⟨x,y,rfl,rx,ry,ex,ey,m2⟩;generalize hq:Z27 p=q at rx ry ex ey⊢
 have hsq:SmallP q:=by rw[<- hq];exact hs.bare
 refine⟨[.i q.kind,.b q.dup,.b q.retain,.b q.clean,.b q.session,.i q.qos,.i q.id,.i q.keep,.i q.code,.s q.client,.s q.topic,.s q.payload,.v x,.r (q.asks.map encA),.v y,.r (q.codes.map Z1i)],rfl,rfl,m2,qy5 _,qy2.2 ⟨⟨rx,λk hk=>.inr (.inl ⟨rfl,?_⟩)⟩,qy2.2 ⟨⟨ry,λk hk=>.inr (.inl ⟨rfl,?_⟩)⟩,qy5 _⟩⟩,Zuk (by simp[Ent.wr]),?_⟩
 ·rcases ex with⟨rfl,e1⟩|e1
  ·refine⟨_,qy10 _ (qy8 ..),rfl,?_⟩;simp only[Ent.fp,Tree.goal,X.P,X.ev,SV.ev,CV.ev,Sc.ev,qz,QA,QB,QC,QD,QE,QF,QG,QH,QI,QJ,QK,QL,QM,Nat.reduceAdd]at hk⊢;rw[e1]at hk;exact hk
  ·simp only[Ent.fp,Tree.goal,X.P,X.ev,SV.ev,CV.ev,Sc.ev,qz,QA,QB,QC,QD,QE,QF,QG,QH,QI,QJ,QK,QL,QM,Nat.reduceAdd,e1]at hk;exact absurd rfl hk.1
 ·rcases ey with⟨rfl,e1⟩|e1
  ·refine⟨_,qy10 _ (qy10 _ (qy8 ..)),rfl,?_⟩;simp only[Ent.fp,Tree.goal,X.P,X.ev,SV.ev,CV.ev,Sc.ev,qz,QA,QB,QC,QD,QE,QF,QG,QH,QI,QJ,QK,QL,QM,Nat.reduceAdd]at hk⊢;rw[e1]at hk;exact hk
  ·simp only[Ent.fp,Tree.goal,X.P,X.ev,SV.ev,CV.ev,Sc.ev,qz,QA,QB,QC,QD,QE,QF,QG,QH,QI,QJ,QK,QL,QM,Nat.reduceAdd,e1]at hk;exact absurd rfl hk.1
 simp only[Tree.goal,X.P,X.ev,SV.ev,CV.ev,Sc.ev,qz,QA,QB,QC,QD,QE,QF,QG,QH,QI,QJ,QK,QL,QM,Nat.reduceAdd];refine⟨[.b (Zc8 q)],rfl,λ_ w' hr=>Zyi w' q x y (hr.at_ 0 rfl) (hr.at_ 1 rfl) hsq,?_⟩;simp only[Tree.goal,X.P,X.ev,SV.ev,CV.ev,Sc.ev,qz,QA,QB,QC,QD,QE,QF,QG,QH,QI,QJ,QK,QL,QM,Nat.reduceAdd];refine⟨λh w' hr=>⟨by rw[if_neg h],hr.mod⟩,λh=>?_⟩;have h:=qy9.1 h;rw[if_pos h];refine⟨λh1=>?_,λh1=>?_⟩
 ·refine⟨[.i (pubE p)],rfl,λ_ w' hr=>Zgu w' p u v (hr.at_ 3 rfl) (hr.at_ 4 rfl) hs,?_⟩;simp only[Tree.goal,X.P,X.ev,SV.ev,CV.ev,Sc.ev,qz,QA,QB,QC,QD,QE,QF,QG,QH,QI,QJ,QK,QL,QM,Nat.reduceAdd];refine⟨λh2 w' hr=>⟨by rw[if_pos ⟨h1,h2⟩],hr.mod⟩,λh2=>?_⟩;have hn:¬(p.kind=3/\pubE p≠0):=λhh=>h2 hh.2;refine⟨[.b (idB p)],rfl,λ_ w' hr=>Z15a w' p u v (hr.at_ 3 rfl) (hr.at_ 4 rfl),?_⟩;simp only[Tree.goal,X.P,X.ev,SV.ev,CV.ev,Sc.ev,qz,QA,QB,QC,QD,QE,QF,QG,QH,QI,QJ,QK,QL,QM,Nat.reduceAdd];refine⟨λh3=>⟨λh4 w' hr=>⟨?_,hr.mod⟩,λh4=>?_⟩,λh3=>?_⟩;(· rw[if_neg (by assumption),if_pos ⟨h3,h4⟩]);(· rw[if_neg (by assumption),if_neg (λhh=>h4 hh.2)];refine⟨[.i (Z2c p)],rfl,λ_ w' hr=>Zdh w' p u v (hr.at_ 3 rfl) (hr.at_ 4 rfl) hs,?_⟩;simp only[Tree.goal,X.P,X.ev,SV.ev,CV.ev,Sc.ev,qz,QA,QB,QC,QD,QE,QF,QG,QH,QI,QJ,QK,QL,QM,Nat.reduceAdd];exact λw' hr=>⟨by trivial,hr.mod⟩);(· rw[if_neg (by assumption),if_neg (λhh=>h3 hh.1)];refine⟨[.i (Z2c p)],rfl,λ_ w' hr=>Zdh w' p u v (hr.at_ 3 rfl) (hr.at_ 4 rfl) hs,?_⟩;simp only[Tree.goal,X.P,X.ev,SV.ev,CV.ev,Sc.ev,qz,QA,QB,QC,QD,QE,QF,QG,QH,QI,QJ,QK,QL,QM,Nat.reduceAdd];exact λw' hr=>⟨by trivial,hr.mod⟩)
 ·have hn:¬(p.kind=3/\pubE p≠0):=λhh=>h1 hh.1;refine⟨[.b (idB p)],rfl,λ_ w' hr=>Z15a w' p u v (hr.at_ 3 rfl) (hr.at_ 4 rfl),?_⟩;simp only[Tree.goal,X.P,X.ev,SV.ev,CV.ev,Sc.ev,qz,QA,QB,QC,QD,QE,QF,QG,QH,QI,QJ,QK,QL,QM,Nat.reduceAdd];refine⟨λh3=>⟨λh4 w' hr=>⟨?_,hr.mod⟩,λh4=>?_⟩,λh3=>?_⟩;(· rw[if_neg (by assumption),if_pos ⟨h3,h4⟩]);(· rw[if_neg (by assumption),if_neg (λhh=>h4 hh.2)];refine⟨[.i (Z2c p)],rfl,λ_ w' hr=>Zdh w' p u v (hr.at_ 3 rfl) (hr.at_ 4 rfl) hs,?_⟩;simp only[Tree.goal,X.P,X.ev,SV.ev,CV.ev,Sc.ev,qz,QA,QB,QC,QD,QE,QF,QG,QH,QI,QJ,QK,QL,QM,Nat.reduceAdd];exact λw' hr=>⟨by trivial,hr.mod⟩);(· rw[if_neg (by assumption),if_neg (λhh=>h3 hh.1)];refine⟨[.i (Z2c p)],rfl,λ_ w' hr=>Zdh w' p u v (hr.at_ 3 rfl) (hr.at_ 4 rfl) hs,?_⟩;simp only[Tree.goal,X.P,X.ev,SV.ev,CV.ev,Sc.ev,qz,QA,QB,QC,QD,QE,QF,QG,QH,QI,QJ,QK,QL,QM,Nat.reduceAdd];exact λw' hr=>⟨by trivial,hr.mod⟩)
end
end Go.Proofs.Y
namespace Go.Proofs.Y
open Go.Sx Go.RowKit
section
variable {P:Program} {w:World}
end
end Go.Proofs.Y
namespace Go.Proofs.Y
open Go.Sx
end Go.Proofs.Y
namespace Go.Proofs.Y
open Go.Sx
section
variable (w:World) (b:Nat) (p:Pkt) (u v:Value)
end
end Go.Proofs.Y
namespace Go.Proofs.Y
open Go.Sx
def pkOf(p:Pk):Pkt:={ pD_Q 3 with dup:=p.1,qos:=p.2.1,id:=p.2.2.1,topic:=p.2.2.2.1,payload:=p.2.2.2.2 }
structure Snt where
 client:List UInt8
 pk:Pkt
 peer:Int
 msg:Msg
abbrev toC(c:List UInt8)(p:Pkt):Snt:=⟨c,p,0,mNil⟩
abbrev toP(n:Int)(m:Msg):Snt:=⟨[],pD_Q 0,n,m⟩
structure Tel where
 kept:List Kp
 wants:List Wt
 sess:List Ses
 wat:List Wat
 next:Int
 out:List Snt
def idxS(l:List Ses)(c:List UInt8):Nat:=(l.filter λs=>Ze s.cl c).length
def hasS(l:List Ses)(c:List UInt8):Bool:=decide (idxS l c<l.length/\(l.getD (idxS l c) s0).cl=c)
def Z67(l:List Ses):Prop:=l.Pairwise λa b=>Ze a.cl b.cl=true
def nx_Z(n:Int):Int:=(n+1) % 65536
def Z19(n p:List UInt8)(q:Int)(t:Tel)(r:Rd):Tel :=
 { t with sess:=t.sess.set (idxS t.sess r.1) (Z1v (t.sess.getD (idxS t.sess r.1) s0) n p (min q r.2)).1,out:=t.out++(Z1v (t.sess.getD (idxS t.sess r.1) s0) n p (min q r.2)).2.map λk=>toC r.1 (pkOf k) }
def putM(m:Msg)(n:Int):Msg:={ m with opts:=Zyo m.opts 6 [Z1x n] }
def Z39(p:List UInt8)(t:Tel)(w:Wat):Tel:={ t with next:=nx_Z t.next,out:=t.out++[toP w.1 (putM ⟨1,69,t.next,w.2.1,[],p⟩ w.2.2.2)] }
def Z5a(n p:List UInt8)(q:Int)(t:Tel):Tel:=(rdOf n t.wants).foldl (Z19 n p q) t
def Z68(n p:List UInt8)(q:Int)(t:Tel):Tel:=(Z2k n (Z5a n p q t).wat).foldl (Z39 p) { Z5a n p q t with wat:=Z28 n (Z5a n p q t).wat }
def Z7k(t:Tel)(w:Wat):Tel:={ t with next:=nx_Z t.next,out:=t.out++[toP w.1 ⟨1,132,t.next,w.2.1,[],[]⟩] }
def ofT(n:List UInt8)(w:Wat):Bool:=decide (w.2.2.1=n)
def Zx(n p:List UInt8)(t:Tel):Tel×Bool :=
 if ¬(rawK t.kept n p).2=0 then(t,false)
 else if ¬p=[]then({ t with kept:=(rawK t.kept n p).1 },true)
 else({ (t.wat.filter (ofT n)).foldl Z7k { t with kept:=(rawK t.kept n p).1 }with wat:=t.wat.filter λw=>!ofT n w },true)
def Zol(c:List UInt8)(t:Tel):Tel:={ t with wants:=t.wants.filter λw=>decide (¬w.1=c) }
def Zcu(c:List UInt8)(t:Tel):Tel :=
 if hasS t.sess c=true then
  if(goR (t.sess.getD (idxS t.sess c) s0)).clean=true then Zol c { t with sess:=t.sess.take (idxS t.sess c)++t.sess.drop (idxS t.sess c+1) }
  else { t with sess:=t.sess.set (idxS t.sess c) (goR (t.sess.getD (idxS t.sess c) s0)) }
 else t
def insS(l:List Ses)(c:List UInt8):List Ses:=if hasS l c=true then l else l.take (idxS l c)++[⟨[],false,true,[],[],0⟩]++l.drop (idxS l c)
def Zcv(l:List Ses)(c:List UInt8)(clean:Bool):Bool:=!((insS l c).getD (idxS l c) s0).clean && !clean
def Zez(l:List Ses)(c:List UInt8)(clean:Bool):Ses:={ (if Zcv l c clean=true then(insS l c).getD (idxS l c) s0 else⟨c,false,false,[],[],1⟩)with clean:=clean }
def Z8a(c:List UInt8)(p:Pkt)(t:Tel):Tel :=
 if ¬p.client=c then t
 else if ¬hasS t.sess c=true/\t.sess.length=6 then { t with out:=t.out++[toC c { pD_Q 2 with code:=3 }] }
 else { t with
  wants:=if Zcv t.sess c p.clean=true then t.wants else t.wants.filter λw=>decide (¬w.1=c)
  sess:=(insS t.sess c).set (idxS t.sess c) (Zm3 (Zez t.sess c p.clean)).1
  out:=t.out++[toC c { pD_Q 2 with session:=Zcv t.sess c p.clean }]++(Zm3 (Zez t.sess c p.clean)).2.map λk=>toC c (pkOf k) }
def Zdi(c:List UInt8)(p:Pkt)(t:Tel):Tel :=
 let t1:Tel:=if p.qos=1 then { t with out:=t.out++[toC c { pD_Q 4 with id:=p.id }] }else t
 Z68 p.topic p.payload p.qos (if p.retain=true then(Zx p.topic p.payload t1).1 else t1)
def Z5b(c:List UInt8)(x:List Wt×List Int)(a:Ak):List Wt×List Int:=if(rawW x.1 (c,a.1,a.2)).2=0 then((rawW x.1 (c,a.1,a.2)).1,x.2++[a.2])else(x.1,x.2++[128])
def Zmd(c:List UInt8)(ws:List Wt)(l:List Ak):List Wt×List Int:=l.foldl (Z5b c) (ws,[])
def Zqo(c:List UInt8)(kept:List Kp)(a:Ak)(q:Int):List Snt:=if q=128 then[]else(kept.filter (forF a.1)).map λk=>toC c { pD_Q 3 with retain:=true,topic:=k.1,payload:=k.2.1 }
def Z69(c:List UInt8)(kept:List Kp):List Ak->List Int->List Snt
 | a::l,q::m=>Zqo c kept a q++Z69 c kept l m
 | _,_=>[]
def Z8b(c:List UInt8)(p:Pkt)(t:Tel):Tel :=
 { t with wants:=(Zmd c t.wants p.asks).1,out:=t.out++[toC c { pD_Q 9 with id:=p.id,codes:=(Zmd c t.wants p.asks).2 }]++Z69 c t.kept p.asks (Zmd c t.wants p.asks).2 }
def Z5c(c:List UInt8)(p:Pkt)(t:Tel):Tel :=
 { t with wants:=t.wants.filter λw=>!(decide (w.1=c) && p.asks.any λa=>decide (a.1=w.2.1)),out:=t.out++[toC c { pD_Q 11 with id:=p.id }] }
def Z134(c:List UInt8)(p:Pkt)(t:Tel):Tel :=
 { t with sess:=t.sess.set (idxS t.sess c) (Z7j (t.sess.getD (idxS t.sess c) s0) p.id).1,out:=t.out++(Z7j (t.sess.getD (idxS t.sess c) s0) p.id).2.map λk=>toC c (pkOf k) }
def Z4p(c:List UInt8)(p:Pkt)(t:Tel):Tel :=
 if ¬p.kind=1/\(¬hasS t.sess c=true\/¬(t.sess.getD (idxS t.sess c) s0).on=true)then t
 else if p.kind=1 then Z8a c p t
 else if p.kind=3 then Zdi c p t
 else if p.kind=4 then Z134 c p t
 else if p.kind=8 then Z8b c p t
 else if p.kind=10 then Z5c c p t
 else if p.kind=12 then { t with out:=t.out++[toC c (pD_Q 13)] }
 else if p.kind=14 then Zcu c t
 else t
def getB(n:Int)(m a:Msg)(name:List UInt8)(t:Tel):Tel×Msg :=
 if ¬hasK t.kept name=true then(t,{ a with code:=132 })
 else
  let a1:Msg:={ a with code:=69,pay:=(t.kept.getD (idx t.kept name) kD).2.1 }
  if(Z2a 6 m.opts).2=0/\(Z2a 6 m.opts).1=0 then
   if(Z2t t.wat (n,m.tok,name,1)).2=0 then({ t with wat:=(Z2t t.wat (n,m.tok,name,1)).1 },putM a1 1)else(t,a1)
  else if(Z2a 6 m.opts).2=0/\(Z2a 6 m.opts).1=1 then({ t with wat:=filt n m.tok t.wat },a1)
  else(t,a1)
def Z1o(m:Msg)(next:Int):Msg:=if m.kind=1 then⟨1,133,next,m.tok,[],[]⟩else⟨2,133,m.id,m.tok,[],[]⟩
def doB(n:Int)(m a:Msg)(t:Tel):Tel×Msg :=
 if ¬(Z10 m.opts).2=0 then(t,{ a with code:=128 })
 else if m.code=1 then getB n m a (Z10 m.opts).1 t
 else if m.code=3 then
  if ¬m.pay=[]/\(Zx (Z10 m.opts).1 m.pay t).2=true then(Z68 (Z10 m.opts).1 m.pay 1 (Zx (Z10 m.opts).1 m.pay t).1,{ a with code:=68 })else(t,{ a with code:=128 })
 else if m.code=4 then((Zx (Z10 m.opts).1 [] t).1,{ a with code:=66 })
 else(t,a)
def Z2z(n:Int)(m:Msg)(t:Tel):Tel :=
 let a:=Z1o m t.next
 let x:=doB n m a { t with next:=if m.kind=1 then nx_Z t.next else t.next,out:=t.out++[toP n a] }
 { x.1 with out:=x.1.out.set t.out.length (toP n x.2) }
def Zv(n:Int)(m:Msg)(t:Tel):Tel :=
 if m.code=0/\m.kind=0 then { t with out:=t.out++[toP n ⟨3,0,m.id,[],[],[]⟩] }
 else if ¬m.code=0/\m.kind<=1 then Z2z n m t
 else t
def Zbr:Option (List UInt8)->List Ses->Int
 | _,[]=>0
 | u,s::l=>if ¬chkS s=0 then chkS s else if(match u with|none=>true|some c=>Ze c s.cl)=true then Zbr (some s.cl) l else 4
def Z4y(l:List Ses):Int:=if 6<(l.length:Int)then 2 else Zbr none l
def Z16(t:Tel):Bool:=t.wants.any (λw=>!hasS t.sess w.1) || t.wat.any (λw=>!hasK t.kept w.2.2.1)
def chkB(t:Tel):Int :=
 if ¬chkK t.kept=0 then chkK t.kept
 else if ¬Zj t.wants=0 then Zj t.wants
 else if ¬Z4y t.sess=0 then Z4y t.sess
 else if ¬Zy t.wat=0 then Zy t.wat
 else if Z16 t=true then 4
 else if t.next<0\/65535<t.next then 3 else 0
open Go
def rdsZ(l:List (Value×List Kd×List (List Value))):Asrt where
 holds w:=∀t∈l,reads w t.1 t.2.1 t.2.2
 fp k:=∃t∈l,t.2.2.flatten≠[]/\Z2 t.1 k
 stable:=λw w' h hh t ht=>(hh t ht).stable λk hk=>h k ⟨t,ht,hk⟩
 bound:=λw hh k ⟨t,ht,hk⟩=>Ent.bound (J:=[.v t.1,.r t.2.2]) (e:=.rd 0 t.2.1 (.var 1)) (hh t ht) hk
abbrev SesX:=Ses×Value×Value
abbrev sxD:SesX:=(s0,.slice none 0 0,.slice none 0 0)
def Zf(t:SesX):List Value:=[.string ⟨t.1.cl.toArray⟩,.bool t.1.on,.bool t.1.clean,sc1 t.2.1,sc1 t.2.2,.int .i64 t.1.next]
abbrev kSx:List Kd:=[.str,.bool,.bool,.oth,.oth,.int .i64]
def sesT(t:SesX):List (Value×List Kd×List (List Value)):=[(t.2.1,kF,t.1.fl.map encF),(t.2.2,kF,t.1.qu.map encF)]
abbrev SntX:=Snt×Value×Value×Value
def Z12(t:SntX):List Value:=[.string ⟨t.1.client.toArray⟩,
 .int .i64 t.1.pk.kind,.bool t.1.pk.dup,.bool t.1.pk.retain,.bool t.1.pk.clean,.bool t.1.pk.session,.int .i64 t.1.pk.qos,.int .i64 t.1.pk.id,.int .i64 t.1.pk.keep,.int .i64 t.1.pk.code,.string ⟨t.1.pk.client.toArray⟩,.string ⟨t.1.pk.topic.toArray⟩,.string ⟨t.1.pk.payload.toArray⟩,sc1 t.2.1,sc1 t.2.2.1,
 .int .i64 t.1.peer,.int .i64 t.1.msg.kind,.int .i64 t.1.msg.code,.int .i64 t.1.msg.id,.string ⟨t.1.msg.tok.toArray⟩,sc1 t.2.2.2,.string ⟨t.1.msg.pay.toArray⟩]
abbrev kSn:List Kd:=[.str,.int .i64,.bool,.bool,.bool,.bool,.int .i64,.int .i64,.int .i64,.int .i64,.str,.str,.str,.oth,.oth,.int .i64,.int .i64,.int .i64,.int .i64,.str,.oth,.str]
def sntT(t:SntX):List (Value×List Kd×List (List Value)):=[(t.2.1,[.str,.int .i64],t.1.pk.asks.map encA),(t.2.2.1,[.int .i64],t.1.pk.codes.map Z1i),(t.2.2.2,[.int .i64,.str],t.1.msg.opts.map encO)]
def nest(l:List SesX)(o:List SntX):List (Value×List Kd×List (List Value)):=l.flatMap sesT++o.flatMap sntT
def Z6(l:List SesX)(o:List SntX):Asrt:=rdsZ (nest l o)
theorem Zp{l:List SesX}{o:List SntX}{w:World}(h:(Z6 l o).holds w){t:SesX}(ht:t∈l):Zk w t.2.1 t.1.fl/\Zk w t.2.2 t.1.qu :=
 ⟨h (t.2.1,kF,t.1.fl.map encF) (List.mem_append_left _ (List.mem_flatMap.2 ⟨t,ht,by simp[sesT]⟩)),h (t.2.2,kF,t.1.qu.map encF) (List.mem_append_left _ (List.mem_flatMap.2 ⟨t,ht,by simp[sesT]⟩))⟩
theorem Z70{l:List SesX}{o:List SntX}{w:World}(h:(Z6 l o).holds w){t:SntX}(ht:t∈o):Z7a w t.2.1 t.1.pk.asks/\Z64 w t.2.2.1 t.1.pk.codes/\Z2d w t.2.2.2 t.1.msg.opts :=
 ⟨h (t.2.1,[.str,.int .i64],t.1.pk.asks.map encA) (List.mem_append_right _ (List.mem_flatMap.2 ⟨t,ht,by simp[sntT]⟩)),h (t.2.2.1,[.int .i64],t.1.pk.codes.map Z1i) (List.mem_append_right _ (List.mem_flatMap.2 ⟨t,ht,by simp[sntT]⟩)),h (t.2.2.2,[.int .i64,.str],t.1.msg.opts.map encO) (List.mem_append_right _ (List.mem_flatMap.2 ⟨t,ht,by simp[sntT]⟩))⟩
theorem Z11{l l':List SesX}{o o':List SntX}{w:World}(h1:∀t∈l',t∈l\/(Zk w t.2.1 t.1.fl/\Zk w t.2.2 t.1.qu))(h2:∀t∈o',t∈o\/(Z7a w t.2.1 t.1.pk.asks/\Z64 w t.2.2.1 t.1.pk.codes/\Z2d w t.2.2.2 t.1.msg.opts))(h:(Z6 l o).holds w):(Z6 l' o').holds w:=by
 intro x hx;rcases qy13.1 hx with hx|hx
 ·obtain⟨t,ht,hx⟩:=List.mem_flatMap.1 hx;have hr:Zk w t.2.1 t.1.fl/\Zk w t.2.2 t.1.qu:=by
   rcases h1 t ht with h3|h3
   ·exact Zp h h3
   ·exact h3
  simp only[sesT,List.mem_cons,List.not_mem_nil,or_false]at hx;rcases hx with rfl|rfl
  ·exact hr.1
  ·exact hr.2
 ·obtain⟨t,ht,hx⟩:=List.mem_flatMap.1 hx;have hr:Z7a w t.2.1 t.1.pk.asks/\Z64 w t.2.2.1 t.1.pk.codes/\Z2d w t.2.2.2 t.1.msg.opts:=by
   rcases h2 t ht with h3|h3
   ·exact Z70 h h3
   ·exact h3
  simp only[sntT,List.mem_cons,List.not_mem_nil,or_false]at hx;rcases hx with rfl|rfl|rfl
  ·exact hr.1
  ·exact hr.2.1
  ·exact hr.2.2
def sesF(t:SesX)(k:Nat):Prop:=((t.1.fl.map encF).flatten≠[]/\Z2 t.2.1 k)\/((t.1.qu.map encF).flatten≠[]/\Z2 t.2.2 k)
def sntF(t:SntX)(k:Nat):Prop:=((t.1.pk.asks.map encA).flatten≠[]/\Z2 t.2.1 k)\/((t.1.pk.codes.map Z1i).flatten≠[]/\Z2 t.2.2.1 k)\/((t.1.msg.opts.map encO).flatten≠[]/\Z2 t.2.2.2 k)
theorem Zb{l:List SesX}{o:List SntX}{k:Nat}:(Z6 l o).fp k↔(∃t∈l,sesF t k)\/(∃t∈o,sntF t k):=by
 constructor
 ·rintro⟨x,hx,hk⟩;rcases qy13.1 hx with hx|hx
  ·obtain⟨t,ht,hx⟩:=List.mem_flatMap.1 hx;simp only[sesT,List.mem_cons,List.not_mem_nil,or_false]at hx;rcases hx with rfl|rfl
   ·exact .inl ⟨t,ht,.inl hk⟩
   ·exact .inl ⟨t,ht,.inr hk⟩
  ·obtain⟨t,ht,hx⟩:=List.mem_flatMap.1 hx;simp only[sntT,List.mem_cons,List.not_mem_nil,or_false]at hx;rcases hx with rfl|rfl|rfl
   ·exact .inr ⟨t,ht,.inl hk⟩
   ·exact .inr ⟨t,ht,.inr (.inl hk)⟩
   ·exact .inr ⟨t,ht,.inr (.inr hk)⟩
 ·rintro(⟨t,ht,h|h⟩|⟨t,ht,h|h|h⟩)
  ·exact⟨_,List.mem_append_left _ (List.mem_flatMap.2 ⟨t,ht,qy8 ..⟩),h⟩
  ·exact⟨_,List.mem_append_left _ (List.mem_flatMap.2 ⟨t,ht,qy10 _ (qy8 ..)⟩),h⟩
  ·exact⟨_,List.mem_append_right _ (List.mem_flatMap.2 ⟨t,ht,qy8 ..⟩),h⟩
  ·exact⟨_,List.mem_append_right _ (List.mem_flatMap.2 ⟨t,ht,qy10 _ (qy8 ..)⟩),h⟩
  ·exact⟨_,List.mem_append_right _ (List.mem_flatMap.2 ⟨t,ht,qy10 _ (qy10 _ (qy8 ..))⟩),h⟩
theorem gSx0(l:List SesX)(i:Nat):Value.gS (((l.map Zf).getD i []).getD 0 undef)=(l.getD i sxD).1.cl:=by simp only[qy1,List.getElem?_map];cases l[i]?<;>simp[Zf,Value.gS,undef,s0]
theorem Z7y{l:List SesX}{i:Nat}(h:i<l.length):(l.map Zf).getD i []=Zf (l.getD i sxD):=by rw[qy1,qy1,List.getElem?_map,qy7 h];rfl
theorem Z4z{l:List SesX}{i:Nat}(h:i<l.length):l.getD i sxD∈l:=by rw[qy1,qy7 h];exact List.getElem_mem h
theorem Zkq(l:List SesX)(i:Nat):(l.map (·.1)).getD i s0=(l.getD i sxD).1:=by rw[qy1,qy1,List.getElem?_map];cases l[i]?<;>rfl
