/- By an AI agent. -/
import Derived.Test.YtldmdbipjhkaeaaGreatDoorU10
import Derived.Test.YtldmdbipjhkaeaaGreatDoorU09
import Derived.Test.YtldmdbipjhkaeaaGreatDoorU06
import Derived.Test.YtldmdbipjhkaeaaGreatDoorU08
import Derived.Shelf.SlSortCmp.WholeK
import Derived.Sort.OwnSorted
import Derived.Ground.SlsfProg
import Derived.Test.YtldmdbipjhkaeaaGreatDoorProg
import Derived.Maps.RangeWalk
import Derived.Maps.OwnOps
import Derived.Sort.KeysCollected
import Derived.WalkKit
set_option linter.all false
set_option maxHeartbeats 20000000
namespace Go.Proofs.Y
open Go.Sx
abbrev Wt:=List UInt8×List UInt8×Int
def Za(k:Wt):List Value:=[.string ⟨k.1.toArray⟩,.string ⟨k.2.1.toArray⟩,.int .i64 k.2.2]
abbrev wD_V:Wt:=([],[],0)
abbrev kW_V:List Kd:=[.str,.str,.int .i64]
theorem Z1k(l:List Wt)(i:Nat):Value.gS (((l.map Za).getD i []).getD 0 undef)=(l.getD i wD_V).1:=by simp only[qy1,List.getElem?_map];cases l[i]?<;>simp[Za,Value.gS,undef]
theorem Z1r(l:List Wt)(i:Nat):Value.gS (((l.map Za).getD i []).getD 1 undef)=(l.getD i wD_V).2.1:=by simp only[qy1,List.getElem?_map];cases l[i]?<;>simp[Za,Value.gS,undef]
theorem Z33(l:List Wt)(i:Nat):Value.gI (((l.map Za).getD i []).getD 2 undef)=(l.getD i wD_V).2.2:=by simp only[qy1,List.getElem?_map];cases l[i]?<;>rfl
abbrev Z1w(w:World)(v:Value)(l:List Wt):Prop:=reads w v kW_V (l.map Za)
abbrev Zes(w:World)(v:Value)(l:List Wt):Prop:=owns w v 71 kW_V (l.map Za)
theorem Z12b(l:List Wt)(i:Nat)(h:i<l.length):l.drop i=l.getD i wD_V::l.drop (i+1):=by rw[List.drop_eq_getElem_cons h,qy1,qy7 h];rfl
theorem Zic(l:List Wt)(i:Nat)(h:i<l.length):l.take (i+1)=l.take i++[l.getD i wD_V]:=by rw[List.take_add_one,qy1,qy7 h];rfl
theorem memW(l:List Wt)(i:Nat)(h:i<l.length):l.getD i wD_V∈l:=by rw[qy1,qy7 h];exact List.getElem_mem h
def smW(x:Wt):Prop:=x.1.length<1000000000/\x.2.1.length<1000000000
def Z1n(l:List Wt):Prop:=∀x∈l,smW x
theorem Z6w{l:List Wt}(h:Z1n l)(i:Nat):smW (l.getD i wD_V):=by
 by_cases hi:i<l.length
 ·exact h _ (memW l i hi)
 ·rw[qy1,List.getElem?_eq_none (by omega)];exact⟨by decide,by decide⟩
abbrev Ky:=List UInt8×List UInt8
def ky(x:Wt):Ky:=(x.1,x.2.1)
def ltP(a b:Ky):Bool:=Ze a.1 b.1 || (decide (a.1=b.1) && Ze a.2 b.2)
theorem Z99{a b:Ky}:ltP a b=true↔Ze a.1 b.1=true\/a.1=b.1/\Ze a.2 b.2=true:=by simp[ltP]
theorem Zbn(a:Ky):ltP a a=false:=by simp[ltP,Z1j]
theorem Z63{a b c:Ky}(h1:ltP a b=true)(h2:ltP b c=true):ltP a c=true:=by
 rw[Z99]at *;rcases h1 with h1|⟨e1,h1⟩<;>rcases h2 with h2|⟨e2,h2⟩
 ·exact .inl (Z1c h1 h2)
 ·exact .inl (by rw[<- e2];exact h1)
 ·exact .inl (by rw[e1];exact h2)
 ·exact .inr ⟨e1.trans e2,Z1c h1 h2⟩
theorem Zid{a b:Ky}(h:ltP a b=true):ltP b a=false:=by
 cases h2:ltP b a with
 | false=>rfl
 | true=>have:=Z63 h h2;rw[Zbn]at this;cases this
theorem Z10f{a b:Ky}(h:ltP a b=true):a≠b:=by rintro rfl;rw[Zbn]at h;cases h
theorem Z12c{a b:Ky}(h1:ltP a b=false)(h2:ltP b a=false):a=b:=by have e:a.1=b.1:=Zai (by cases h:Ze a.1 b.1 with|false=>rfl|true=>rw[Z99.2 (.inl h)]at h1;cases h1) (by cases h:Ze b.1 a.1 with|false=>rfl|true=>rw[Z99.2 (.inl h)]at h2;cases h2);have f:a.2=b.2:=Zai (by cases h:Ze a.2 b.2 with|false=>rfl|true=>rw[Z99.2 (.inr ⟨e,h⟩)]at h1;cases h1) (by cases h:Ze b.2 a.2 with|false=>rfl|true=>rw[Z99.2 (.inr ⟨e.symm,h⟩)]at h2;cases h2);exact Prod.ext e f
theorem Ztj{a b:Ky}:ltP a b=false↔(ltP b a=true\/b=a):=by
 constructor
 ·intro h;cases h2:ltP b a with
  | true=>exact .inl rfl
  | false=>exact .inr (Z12c h2 h)
 ·rintro(h|rfl)
  ·exact Zid h
  ·exact Zbn _
def cmpP(a b:Ky):Int:=if Z34 a.1 b.1=0 then Z34 a.2 b.2 else Z34 a.1 b.1
theorem Ztk{a b:Ky}:cmpP a b<0↔ltP a b=true:=by
 unfold cmpP;rw[Z99];by_cases h:Z34 a.1 b.1=0
 ·rw[if_pos h,Zaj];have e:=Z38.1 h;constructor
  ·exact λh2=>.inr ⟨e,h2⟩
  ·rintro(h2|h2)
   ·exact absurd e (Zdc h2)
   ·exact h2.2
 ·rw[if_neg h,Zaj];constructor
  ·exact .inl
  ·rintro(h2|h2)
   ·exact h2
   ·exact absurd (Z38.2 h2.1) h
theorem Ztl{a b:Ky}:cmpP a b=0↔a=b:=by
 unfold cmpP;by_cases h:Z34 a.1 b.1=0
 ·rw[if_pos h,Z38];exact⟨λh2=>Prod.ext (Z38.1 h) h2,λh2=>by rw[h2]⟩
 ·rw[if_neg h];exact⟨λh2=>absurd h2 h,λh2=>absurd (Z38.2 (by rw[h2])) h⟩
theorem Ztm{a b:Ky}:0<=cmpP a b↔ltP a b=false:=by
 have:=@Ztk a b;cases h:ltP a b with
 | true=>rw[h]at this;simp at this⊢;exact this
 | false=>rw[h]at this;simp at this⊢;exact this
def Zak(l:List Wt):Prop:=l.Pairwise λa b=>ltP (ky a) (ky b)=true
theorem Zo5{l:List Wt}(h:Zak l){i j:Nat}(hij:i<j)(hj:j<l.length):ltP (ky (l.getD i wD_V)) (ky (l.getD j wD_V))=true:=by rw[Zak,List.pairwise_iff_getElem]at h;have:=h i j (by omega) hj hij;simpa[qy1,qy7 hj,qy7 (Nat.lt_trans hij hj)]using this
def idxW(l:List Wt)(n:Ky):Nat:=(l.filter λk=>ltP (ky k) n).length
theorem Ztn{l:List Wt}{n:Ky}{i:Nat}(hi:i<=l.length)(h1:∀j,j<i->ltP (ky (l.getD j wD_V)) n=true)(h2:∀j,i<=j->j<l.length->ltP (ky (l.getD j wD_V)) n=false):i=idxW l n:=by
 have e:l=l.take i++l.drop i:=(List.take_append_drop i l).symm;have f1:(l.take i).filter (λk=>ltP (ky k) n)=l.take i:=by
  rw[List.filter_eq_self];intro x hx;obtain⟨j,hj,rfl⟩:=List.mem_iff_getElem.1 hx;have hj':j<i:=by simp at hj;omega
  have:=h1 j hj';rw[List.getElem_take];simpa[qy1,qy7 (show j<l.length by omega)]using this
 have f2:(l.drop i).filter (λk=>ltP (ky k) n)=[]:=by
  rw[List.filter_eq_nil_iff];intro x hx;obtain⟨j,hj,rfl⟩:=List.mem_iff_getElem.1 hx;have hj':i+j<l.length:=by simp at hj;omega
  have:=h2 (i+j) (by omega) hj';rw[List.getElem_drop];simpa[qy1,qy7 hj']using this
 rw[idxW,e,List.filter_append,f1,f2];simp;omega
theorem Z12d(l:List Wt)(n:Ky):idxW l n<=l.length:=List.length_filter_le _ _
def hasW(l:List Wt)(n:Ky):Bool:=decide (idxW l n<l.length/\ky (l.getD (idxW l n) wD_V)=n)
theorem Z173(i j:Nat)(h:i+j<4000000000):Int.fdiv (IntKind.u64.wrap ((i:Int)+j)) (2 ^ (Nat.min (Int.toNat 1) IntKind.u64.bits))=(((i+j) / 2:Nat):Int):=by
 have e:(2:Int) ^ (Nat.min (Int.toNat 1) IntKind.u64.bits)=2:=by decide
 rw[e,IntKind.wrap_u64,Int.emod_eq_of_lt (by omega) (by omega),Int.fdiv_eq_ediv_of_nonneg _ (by decide)];omega
def loW(l:List Wt)(n:Ky):List Wt:=l.filter λk=>ltP (ky k) n
def miW(l:List Wt)(n:Ky):List Wt:=l.filter λk=>decide (ky k=n)
def hiW(l:List Wt)(n:Ky):List Wt:=l.filter λk=>ltP n (ky k)
theorem Zgn{p:Wt->Bool}{l:List Wt}(h:∀x∈l,p x=false):l.filter p=[]:=by rw[List.filter_eq_nil_iff];intro x hx;rw[h x hx];decide
theorem Zto{p:Wt->Bool}{l:List Wt}(h:∀x∈l,p x=true):l.filter p=l:=List.filter_eq_self.2 h
theorem Zk9:∀(l:List Wt) (n:Ky),Zak l->l=loW l n++miW l n++hiW l n/\(miW l n).length<=1
 | [],_,_=>by simp[loW,miW,hiW]
 | k::r,n,h=>by
  obtain⟨h1,h2⟩:=List.pairwise_cons.1 h;obtain⟨e,hm⟩:=Zk9 r n h2;cases hk:ltP (ky k) n with
  | true =>
   have a1:loW (k::r) n=k::loW r n:=by simp[loW,hk]
   have a2:miW (k::r) n=miW r n:=by simp[miW,Z10f hk]
   have a3:hiW (k::r) n=hiW r n:=by simp[hiW,Zid hk]
   rw[a1,a2,a3];exact⟨by rw[List.cons_append,List.cons_append,<- e],hm⟩
  | false =>
   have hgt:∀x∈r,ltP n (ky x)=true:=λx hx=>by
    rcases Ztj.1 hk with h3|h3
    ·exact Z63 h3 (h1 x hx)
    ·rw[h3];exact h1 x hx
   have b1:loW r n=[]:=Zgn λx hx=>Zid (hgt x hx);have b2:miW r n=[]:=Zgn λx hx=>decide_eq_false (λe=>by have:=hgt x hx;rw[e,Zbn]at this;cases this);have b3:hiW r n=r:=Zto hgt;have a1:loW (k::r) n=[]:=by rw[loW,List.filter_cons,hk];exact b1
   rcases Ztj.1 hk with h3|h3
   ·have a2:miW (k::r) n=[]:=by rw[miW,List.filter_cons,decide_eq_false (Z10f h3).symm];exact b2
    have a3:hiW (k::r) n=k::r:=by rw[hiW,List.filter_cons,h3,if_pos rfl];exact congrArg (List.cons k) b3
    rw[a1,a2,a3];simp
   ·have a2:miW (k::r) n=[k]:=by rw[miW,List.filter_cons,decide_eq_true h3.symm,if_pos rfl];exact congrArg (List.cons k) b2
    have a3:hiW (k::r) n=r:=by
     have:ltP n (ky k)=false:=by rw[<- h3];exact Zbn _
     rw[hiW,List.filter_cons,this];exact b3
    rw[a1,a2,a3];simp
theorem Zy7{l:List Wt}{n:Ky}(h:Zak l):l.take (idxW l n)=loW l n:=by
 have e:=(Zk9 l n h).1
 calc l.take (loW l n).length=(loW l n++miW l n++hiW l n).take (loW l n).length:=by rw[<- e]
  _=loW l n:=by rw[List.append_assoc,List.take_left]
theorem Zo6{l:List Wt}{n:Ky}(h:Zak l):l.drop (idxW l n)=miW l n++hiW l n:=by
 have e:=(Zk9 l n h).1
 calc l.drop (loW l n).length=(loW l n++miW l n++hiW l n).drop (loW l n).length:=by rw[<- e]
  _=miW l n++hiW l n:=by rw[List.append_assoc,List.drop_left]
theorem Z154{l:List Wt}{n:Ky}(h:Zak l):l.getD (idxW l n) wD_V=(miW l n++hiW l n).getD 0 wD_V:=by rw[<- Zo6 h];simp[qy1]
theorem Z12e{l:List Wt}{n:Ky}(h:Zak l):l.length=idxW l n+(miW l n).length+(hiW l n).length:=by have e:=congrArg List.length (Zk9 l n h).1;rw[qy11,qy11]at e;exact e
theorem Zy8{l:List Wt}{n:Ky}(h:Zak l):(hasW l n=true/\∃k,miW l n=[k]/\ky k=n)\/(hasW l n=false/\miW l n=[]):=by
 have hl:=Z12e (n:=n) h;have ha:=Z154 (n:=n) h;have hm:=(Zk9 l n h).2
 match he:miW l n,hm with
 | [],_ =>
  rw[he]at hl ha;refine .inr ⟨?_,rfl⟩;rw[hasW,decide_eq_false];rintro⟨h1,h2⟩;rw[ha]at h2
  match hb:hiW l n with
  | []=>rw[hb]at hl;simp at hl;omega
  | x::r =>
   rw[hb]at h2;have:x∈hiW l n:=by rw[hb];exact qy8 ..
   have h3:=(List.mem_filter.1 this).2;have h2:ky x=n:=h2;rw[h2,Zbn]at h3;cases h3
 | [k],_ =>
  have:k∈miW l n:=by rw[he];exact qy8 ..
  have hk:ky k=n:=by simpa using(List.mem_filter.1 this).2
  rw[he]at hl ha;refine .inl ⟨?_,k,rfl,hk⟩;rw[hasW,decide_eq_true];refine⟨by rw[hl];simp;omega,?_⟩;rw[ha];exact hk
abbrev Rd:=List UInt8×Int
def encY(k:Rd):List Value:=[.string ⟨k.1.toArray⟩,.int .i64 k.2]
abbrev yD:Rd:=([],0)
abbrev kY:List Kd:=[.str,.int .i64]
theorem gY0(l:List Rd)(i:Nat):Value.gS (((l.map encY).getD i []).getD 0 undef)=(l.getD i yD).1:=by simp only[qy1,List.getElem?_map];cases l[i]?<;>simp[encY,Value.gS,undef]
theorem gY1(l:List Rd)(i:Nat):Value.gI (((l.map encY).getD i []).getD 1 undef)=(l.getD i yD).2:=by simp only[qy1,List.getElem?_map];cases l[i]?<;>rfl
abbrev Zy9(w:World)(v:Value)(l:List Rd):Prop:=owns w v 142 kY (l.map encY)
theorem Z174(l:List Rd)(i:Nat)(h:i<l.length):l.take (i+1)=l.take i++[l.getD i yD]:=by rw[List.take_add_one,qy1,qy7 h];rfl
theorem memY(l:List Rd)(i:Nat)(h:i<l.length):l.getD i yD∈l:=by rw[qy1,qy7 h];exact List.getElem_mem h
def forW(n:List UInt8)(w:Wt):Bool:=mt (lev w.2.1) (lev n)
def bst(n c:List UInt8):Option Int->List Wt->Option Int
 | o,[]=>o
 | o,w::r=>bst n c (if forW n w=true/\w.1=c then some (max (o.getD 0) w.2.2)else o) r
theorem Zgo(n c:List UInt8):∀(a b:List Wt) (o:Option Int),bst n c o (a++b)=bst n c (bst n c o a) b
 | [],_,_=>rfl
 | _::a,b,_=>Zgo n c a b _
theorem Zal(n c:List UInt8)(a:List Wt)(w:Wt)(o:Option Int):bst n c o (a++[w])=if forW n w=true/\w.1=c then some (max ((bst n c o a).getD 0) w.2.2)else bst n c o a:=by rw[Zgo];rfl
theorem Zo7{n c:List UInt8}:∀{l:List Wt},(∀w∈l,w.1≠c)->bst n c none l=none
 | [],_=>rfl
 | w::r,h=>by rw[bst,if_neg (λh2=>h w (qy8 ..) h2.2)];exact Zo7 λx hx=>h x (qy10 _ hx)
theorem Ztp{n c:List UInt8}:∀{l:List Wt} {o:Option Int} {q:Int},(∀w∈l,0<=w.2.2)->bst n c o l=some q->o=some q\/∃w∈l,forW n w=true/\w.1=c/\w.2.2=q
 | [],o,q,_,h=>.inl h
 | w::r,o,q,hn,h=>by
  rw[bst]at h;have hn':∀x∈r,0<=x.2.2:=λx hx=>hn x (qy10 _ hx);by_cases h1:forW n w=true/\w.1=c
  ·rw[if_pos h1]at h;rcases Ztp hn' h with h2|⟨x,hx,h2⟩
   ·have h3:=Option.some.inj h2;have h0:=hn w (qy8 ..);cases o with
    | none =>
     simp only[Option.getD_none]at h3;exact .inr ⟨w,qy8 ..,h1.1,h1.2,by omega⟩
    | some y =>
     simp only[Option.getD_some]at h3;by_cases h4:w.2.2<=y
     ·exact .inl (by congr 1;omega)
     ·exact .inr ⟨w,qy8 ..,h1.1,h1.2,by omega⟩
   ·exact .inr ⟨x,qy10 _ hx,h2⟩
  ·rw[if_neg h1]at h;rcases Ztp hn' h with h2|⟨x,hx,h2⟩
   ·exact .inl h2
   ·exact .inr ⟨x,qy10 _ hx,h2⟩
def Ztq(l:List Rd):Prop:=l.Pairwise λa b=>Ze a.1 b.1=true
theorem Zgp:∀{a b:List Rd},Ztq a->Ztq b->(∀x,x∈a↔x∈b)->a=b
 | [],[],_,_,_=>rfl
 | [],y::b,_,_,h=>absurd ((h y).2 (qy8 ..)) (by simp)
 | x::a,[],_,_,h=>absurd ((h x).1 (qy8 ..)) (by simp)
 | x::a,y::b,ha,hb,h=>by
  obtain⟨a1,a2⟩:=List.pairwise_cons.1 ha;obtain⟨b1,b2⟩:=List.pairwise_cons.1 hb;have e:x=y:=by
   rcases List.mem_cons.1 ((h x).1 (qy8 ..))with e|h1
   ·exact e
   ·rcases List.mem_cons.1 ((h y).2 (qy8 ..))with e|h2
    ·exact e.symm
    ·have:=Z4a (b1 x h1);rw[a1 y h2]at this;cases this
  subst e;congr 1
  refine Zgp a2 b2 λz=>⟨λhz=>?_,λhz=>?_⟩
  ·rcases List.mem_cons.1 ((h z).1 (qy10 _ hz))with e|h1
   ·have:=a1 z hz;rw[e,Z1j]at this;cases this
   ·exact h1
  ·rcases List.mem_cons.1 ((h z).2 (qy10 _ hz))with e|h1
   ·have:=b1 z hz;rw[e,Z1j]at this;cases this
   ·exact h1
def addY(out:List Rd)(w:Wt):List Rd :=
 match out.getLast? with
 | none=>[(w.1,max 0 w.2.2)]
 | some x=>if x.1=w.1 then out.dropLast++[(x.1,max x.2 w.2.2)]else out++[(w.1,max 0 w.2.2)]
theorem Zie(w:Wt):addY [] w=[(w.1,max 0 w.2.2)]:=rfl
theorem Zam(o:List Rd)(x:Rd)(w:Wt):addY (o++[x]) w=if x.1=w.1 then o++[(x.1,max x.2 w.2.2)]else o++[x]++[(w.1,max 0 w.2.2)]:=by simp[addY]
def rdF(n:List UInt8)(out:List Rd)(l:List Wt):List Rd:=l.foldl (λout w=>if forW n w=true then addY out w else out) out
def rdOf(n:List UInt8)(l:List Wt):List Rd:=rdF n [] l
def okY(n:List UInt8)(out:List Rd)(l:List Wt):Prop:=Ztq out/\∀c q,(c,q)∈out↔bst n c none l=some q
theorem Z12f{n c:List UInt8}{l:List Wt}{q:Int}(h:bst n c none l=some q):∃w∈l,w.1=c:=by refine Classical.byContradiction λhn=>?_;rw[Zo7 λw hw e=>hn ⟨w,hw,e⟩]at h;cases h
theorem Zya{n:List UInt8}{out:List Rd}{l:List Wt}(h:okY n out l){w:Wt}(hf:¬forW n w=true):okY n out (l++[w]) :=
 ⟨h.1,λc q=>by rw[Zal,if_neg (λh2=>hf h2.1)];exact h.2 c q⟩
theorem Zyb{n:List UInt8}{out:List Rd}{l:List Wt}(h:okY n out l){w:Wt}(hs:∀x∈l,x.1=w.1\/Ze x.1 w.1=true)(hf:forW n w=true):okY n (addY out w) (l++[w]):=by
 obtain⟨h1,h2⟩:=h;have hle:∀x∈out,x.1=w.1\/Ze x.1 w.1=true:=λx hx=>by obtain⟨y,hy,e⟩:=Z12f ((h2 x.1 x.2).1 hx);rw[<- e];exact hs y hy
 have hb:∀c q,bst n c none (l++[w])=some q↔(c=w.1/\q=max ((bst n w.1 none l).getD 0) w.2.2)\/(c≠w.1/\(c,q)∈out):=by
  intro c q;rw[Zal];by_cases hc:w.1=c
  ·subst hc;rw[if_pos ⟨hf,rfl⟩];constructor
   ·intro e;exact .inl ⟨rfl,(Option.some.inj e).symm⟩
   ·rintro(⟨-,e⟩|⟨e,-⟩)
    ·rw[e]
    ·exact absurd rfl e
  ·rw[if_neg (λh3=>hc h3.2),<- h2 c q];constructor
   ·exact λe=>.inr ⟨λe2=>hc e2.symm,e⟩
   ·rintro(⟨e,-⟩|⟨-,e⟩)
    ·exact absurd e.symm hc
    ·exact e
 have hno:(∀x∈out,x.1≠w.1)->bst n w.1 none l=none:=λh3=>by
  cases h4:bst n w.1 none l with
  | none=>rfl
  | some q=>exact absurd rfl (h3 _ ((h2 _ q).2 h4))
 rcases List.eq_nil_or_concat out with rfl|⟨o,x,rfl⟩
 ·rw[Zie];refine⟨List.pairwise_singleton _ _,λc q=>?_⟩;rw[hb,hno (by simp)];simp only[qy12,Option.getD_none,List.not_mem_nil,and_false,or_false,Prod.mk.injEq]
 ·rw[List.concat_eq_append]at h1 h2 hle hb hno⊢;rw[Zam];have ho:∀y∈o,Ze y.1 x.1=true:=λy hy=>(List.pairwise_append.1 h1).2.2 y hy x (qy12.2 rfl);have hol:Ztq o:=(List.pairwise_append.1 h1).1;by_cases hx:x.1=w.1
  ·rw[if_pos hx];have hv:bst n w.1 none l=some x.2:=by rw[<- hx];exact(h2 x.1 x.2).1 (List.mem_append_right _ (qy12.2 rfl))
   refine⟨List.pairwise_append.2 ⟨hol,List.pairwise_singleton _ _,λy hy z hz=>by rw[qy12.1 hz];exact ho y hy⟩,λc q=>?_⟩;rw[hb,hv];simp only[Option.getD_some,qy13,qy12,Prod.mk.injEq,hx];constructor
   ·rintro(h3|h3)
    ·refine .inr ⟨λe=>?_,.inl h3⟩;have:=ho _ h3;rw[e,<- hx,Z1j]at this;cases this
    ·exact .inl h3
   ·rintro(h3|⟨h3,h4|h4⟩)
    ·exact .inr h3
    ·exact .inl h4
    ·exact absurd (by have:=congrArg Prod.fst h4;simp only at this;rw[this,hx]) h3
  ·rw[if_neg hx];have hlt:Ze x.1 w.1=true:=(hle x (List.mem_append_right _ (qy12.2 rfl))).resolve_left hx;have hall:∀y∈o++[x],Ze y.1 w.1=true:=λy hy=>by
    rcases qy13.1 hy with hy|hy
    ·exact Z1c (ho y hy) hlt
    ·rw[qy12.1 hy];exact hlt
   refine⟨List.pairwise_append.2 ⟨h1,List.pairwise_singleton _ _,λy hy z hz=>by rw[qy12.1 hz];exact hall y hy⟩,λc q=>?_⟩;rw[hb,hno λy hy=>Zdc (hall y hy)];rw[qy13,qy12,Prod.mk.injEq,Option.getD_none];constructor
   ·rintro(h3|h3)
    ·exact .inr ⟨Zdc (hall _ h3),h3⟩
    ·exact .inl h3
   ·rintro(h3|h3)
    ·exact .inr h3
    ·exact .inl h3.2
def Zyc(l:List Wt):Prop:=l.Pairwise λa b=>a.1=b.1\/Ze a.1 b.1=true
theorem Zgq{l:List Wt}(h:Zak l):Zyc l:=h.imp λ{a b} h2=>by
 rcases Z99.1 h2 with h3|h3
 ·exact .inr h3
 ·exact .inl h3.1
theorem Z10g{n:List UInt8}:∀(l d:List Wt) (out:List Rd),Zyc (d++l)->okY n out d->okY n (rdF n out l) (d++l)
 | [],d,out,_,h=>by rw[List.append_nil];exact h
 | w::r,d,out,hr,h=>by
  have e:d++w::r=d++[w]++r:=by simp
  rw[e]at hr⊢;rw[rdF,List.foldl_cons];refine Z10g r (d++[w]) _ hr ?_;have hd:∀x∈d,x.1=w.1\/Ze x.1 w.1=true:=λx hx=>(List.pairwise_append.1 (List.pairwise_append.1 hr).1).2.2 x hx w (qy12.2 rfl);by_cases hf:forW n w=true
  ·rw[if_pos hf];exact Zyb h hd hf
  ·rw[if_neg hf];exact Zya h hf
theorem Ztr{n:List UInt8}{l:List Wt}(h:Zyc l):okY n (rdOf n l) l:=by have:=Z10g (n:=n) l [] [] (by simpa using h) ⟨List.Pairwise.nil,λc q=>by simp[bst]⟩;simpa[rdOf]using this
theorem Zif(n:List UInt8):∀(l:List Wt) (out:List Rd),(rdF n out l).length<=out.length+l.length
 | [],out=>Nat.le_refl _
 | w::r,out=>by
  have:=Zif n r (if forW n w=true then addY out w else out);rw[rdF,List.foldl_cons];refine Nat.le_trans this ?_;have:(if forW n w=true then addY out w else out).length<=out.length+1:=by
   split
   ·rcases List.eq_nil_or_concat out with rfl|⟨o,x,rfl⟩
    ·simp[Zie]
    ·rw[List.concat_eq_append,Zam];split<;>simp
   ·omega
  simp only[List.length_cons];omega
open Go Go.Shelf Go.RowKit Go.Lib
set_option maxRecDepth 100000 in
theorem Zts:Zep Tryz.prog 197:=by
  intro w b n c i vb vc hi hc hb;go_enter Tryz.func197,Tryz.ntmps197
  go_wp2
  all_goals (go_ret;exact⟨rfl,rfl⟩)
set_option maxRecDepth 100000 in
theorem Zyd:Zk8 Tryz.prog 197 23:=by
  intro w b n c vb m vc hm hc hb v' w' hrun;have hz1:¬((m:Int)=0):=by omega
  go_enter Tryz.func197,Tryz.ntmps197
  go_wp2_with (at_builtin;refine Lib.wpList_append_run _ rfl _ _ _ _ rfl _ _ rfl rfl _ _ (hrun _) ?_)
  all_goals (go_ret;exact⟨rfl,rfl⟩)
set_option maxRecDepth 100000 in
theorem Zq9:Zag Tryz.prog 197 225 23 3:=by
  intro w g n c i vb m vc cur1 cur2 hi hm hroom hc63 hov hcp1 hcp2;obtain⟨hz1,hz2,hw1,hw2,hb1,hin,htn,htn2,hb3,-⟩:=insN hi hm (by omega);have hb2:¬(c=i+m):=by omega
  have hb4:¬(c=i):=by omega
  have mixed:Tryz.prog.follows Departure.mixedOrders=true:=by kernel_rfl
  go_enter Tryz.func197,Tryz.ntmps197
  go_wp2_with (simp only[hov])
  go_region_law_o (refine step_copy_runI rfl _ _ 23 23 rfl _ _ (by simp[Act.eval,Act.put]) (by simp[Act.eval,Act.put]) (hcp1 _ _ _) ?_)
  go_wp2_with (at_builtin;refine wpList_copy_runI _ rfl _ _ 23 23 rfl _ _ rfl rfl (hcp2 _ rfl _ _) ?_)
  go_ret
  first|exact⟨rfl,rfl⟩|exact⟨rfl,by rw[setRow_setRow]⟩
set_option maxRecDepth 100000 in
theorem Ztt:Zeq Tryz.prog 197 71 23 3 3:=by
  intro w g n c i vb m vc G ROW cur2 cur3 hi hm hnc hroom hGn hG63 hrz hcpA hcpB Q hfin;obtain⟨hz1,hz2,hw1,-,hb1,hin,htn,-,-,hb3⟩:=insN hi hm (by omega);have hz3:(c:Int)<(n:Int)+(m:Int):=by omega
  have hGi:¬(G=i):=by omega
  have hGim:¬(G=i+m):=by omega
  have hci:¬(c=i):=by omega
  have mixed:Tryz.prog.follows Departure.mixedOrders=true:=by kernel_rfl
  have hE1:((w.alloc (.cells ROW 71)).drew).heap=(w.drew.alloc (.cells ROW 71)).heap:=rfl;have hF1:(((w.alloc (.cells ROW 71)).drew.setRow w.heap.size cur2).drew).heap=((w.drew.alloc (.cells ROW 71)).setRow w.heap.size cur2).heap:=rfl;go_enter Tryz.func197,Tryz.ntmps197
  go_wp2_with (first
    | (at_builtin;refine Lib.wpList_append_run _ rfl _ _ _ _ rfl _ _ rfl rfl _ _ (hrz _) ?_)
    | (at_builtin;refine wpList_copy_runI _ rfl _ _ 23 23 rfl _ _ rfl rfl (hcpA _ hE1 _ _) ?_)
    | (at_builtin;refine wpList_copy_runI _ rfl _ _ 23 23 rfl _ _ rfl rfl (hcpB _ hF1 _ _ _) ?_))
  go_region_law_o (refine step_copy_runI rfl _ _ 23 23 rfl (.slice (some ⟨w.heap.size,(i+m)*3,none⟩) (n+m - (i+m)) (G - (i+m))) (.slice (some ⟨g,i*3,none⟩) (n - i) (c - i)) (by simp[Act.eval,Act.put]) (by simp[Act.eval,Act.put]) (hcpB _ hF1 3 (G - (i+m)) (c - i)) ?_)
  go_wp2
  exact hfin _ rfl rfl rfl rfl
theorem Ztu(w:World)(s v:Value)(i:Nat)(R V:List (List Value))(hs:owns w s 71 [.str,.str,.int .i64] R)(hv:owns w v 71 [.str,.str,.int .i64] V)(hne:∀k,Z2 s k->Z2 v k->False)(hi:i<=R.length)(hb:(R.length+V.length)*40<=140737488355328) : Calls Tryz.prog 197 #[s,.int .i64 i,v] w λe w'=>∃v',e=.returned v'/\Zeo w w' s v' 71 [.str,.str,.int .i64] (R.take i++V++R.drop i) :=
  Zia (K:=3) Tryz.underlying23 Tryz.underlying3 (by kernel_rfl) rfl (by decide) (by decide) (λargs w=>run_callFunc_extern Tryz.func225 (by kernel_rfl) (by kernel_rfl) (by kernel_rfl) (e:=Extern.SlicesOverlaps.overlaps #[23,23] #[4]) (by kernel_rfl) args w) Zts Zyd Zq9 Ztt w s v i R V hs hv hne hi hb
def pw:Nat->Nat
 | 0=>1
 | k+1=>256*pw k
theorem Zig{a b:Nat}(h:a<=b):pw a<=pw b:=by
 induction h with
 | refl=>exact Nat.le_refl _
 | step _ ih=>simp only[pw];omega
def numB(k:Nat)(n:Int):List UInt8:=(List.range k).map λj=>UInt8.ofNat (n / pw (k - 1 - j) % 256).toNat
theorem Z12g(n:Int)(s:Nat)(hs:s<64):n.fdiv (2 ^ (Nat.min s IntKind.i64.bits))=n / (2 ^ s:Nat):=by have:Nat.min s IntKind.i64.bits=s:=Nat.min_eq_left (by show s<=64;omega);rw[this,Int.fdiv_eq_ediv_of_nonneg _ (by exact Int.pow_nonneg (by omega))];simp
theorem Ztv(n:Int):IntKind.u8.wrap n=n % 256:=IntKind.wrap_u8 n
theorem Z155(N m:Nat):((N:Int) / (pw m:Int)) / 256=(N:Int) / (pw (m+1):Int):=by
 have h:(N / pw m) / 256=N / pw (m+1):=by rw[Nat.div_div_eq_div_mul,Nat.mul_comm];rfl
 rw[<- Int.natCast_ediv,<- Int.natCast_ediv,<- h];rfl
theorem Z12h(w:World)(n:Int)(k:Nat)(hk:k<=8)(h0:0<=n)(h1:n<=9223372036854775807) : Calls Tryz.prog 243 #[.int .i64 n,.int .i64 k] w λe w'=>e=.returned (.string ⟨(numB k n).toArray⟩)/\Mod [] w w':=by
 refine Z1 (Z8 (J:=[.i n,.i k]) sxE_ok Tryz.func243 Zeb rfl rfl rfl ?_) rfl;simp only[Tree.goal,X.P,X.ev,SV.ev,CV.ev,Sc.ev,qz,QA,QB,QC,QD,QE,QF,QG,QH,QI,QJ,QK,QL,QM,Nat.reduceAdd];refine⟨λvs=>∃(m:Nat) (v:Value),vs=[.i (n / pw m),.v v,.r ((List.range m).map λj=>[.int .u8 (n / pw j % 256)]),.i m]/\m<=k,λvs=>(k - (vs.getD 3 (.i 0)).toI).toNat,⟨0,.slice none 0 0,by simp[pw],by omega⟩,?_⟩;rintro _ - ⟨m,v,rfl,hm⟩;simp only[Tree.goal,X.P,X.ev,SV.ev,CV.ev,Sc.ev,qz,QA,QB,QC,QD,QE,QF,QG,QH,QI,QJ,QK,QL,QM,Nat.reduceAdd];refine⟨λh=>?_,λh=>?_⟩
 ·intro v1;refine⟨by simp;omega,λv2=>⟨by omega,by omega,⟨m+1,v2,?_,by omega⟩,by omega⟩⟩;have e1:(n / pw m) / 256=n / pw (m+1):=by
   obtain⟨N,rfl⟩:=Int.eq_ofNat_of_zero_le h0;exact Z155 N m
  have e2:Int.toNat 8=8:=rfl;simp only[List.range_succ,List.map_append,List.map_cons,List.map_nil,List.cons.injEq,V.i.injEq,V.v.injEq,V.r.injEq,and_true,Ztv,e2,Z12g _ 8 (by omega),Nat.reducePow,true_and];exact⟨e1,by omega⟩
 ·have hmk:m=k:=by omega
  subst hmk;have hl:((List.range m).map λj=>[Value.int .u8 (n / pw j % 256)]).length=m:=by simp
  refine⟨by omega,by omega,λvs=>∃(i:Nat) (h:Nat->Int),vs=[.i i,.i ((m:Int) - 1 - i),.r ((List.range m).map λx=>[.int .u8 (h x)])]/\2*i<=m+1/\∀x,x<m->h x=if x<i\/m - 1<x+i then n / pw (m - 1 - x) % 256 else n / pw x % 256,
   λvs=>((vs.getD 1 (.i 0)).toI+1 - (vs.getD 0 (.i 0)).toI).toNat,⟨0,λx=>n / pw x % 256,by simp,by omega,λx hx=>by rw[if_neg (by omega)]⟩,?_⟩
  rintro _ - ⟨i,h,rfl,hi,hh⟩;simp only[Tree.goal,X.P,X.ev,SV.ev,CV.ev,Sc.ev,qz,QA,QB,QC,QD,QE,QF,QG,QH,QI,QJ,QK,QL,QM,Nat.reduceAdd];refine⟨λhc=>?_,λhc=>?_⟩
  ·obtain⟨j,hj⟩:∃j:Nat,(m:Int) - 1 - i=j:=⟨m - 1 - i,by omega⟩
   rw[hj]at hc⊢;have hjm:j<m:=by omega
   have him:i<m:=by omega
   have hget:∀x:Nat,x<m->((List.range m).map λx=>[Value.int .u8 (h x)]).getD x []=[Value.int .u8 (h x)]:=λx hx=>by simp[qy1,List.getElem?_map,List.getElem?_range hx]
   have q1:((j:Nat):Int)<(m:Int):=by omega
   have q2:((i:Nat):Int)<(m:Int):=by omega
   have q3:(0:Int)<=(i:Int):=by omega
   have q4:(0:Int)<=(j:Int):=by omega
   have q5:(-9223372036854775808:Int)<=(i:Int)+1:=by omega
   have q6:(i:Int)+1<=9223372036854775807:=by omega
   have q7:(-9223372036854775808:Int)<=(j:Int) - 1:=by omega
   have q8:(j:Int) - 1<=9223372036854775807:=by omega
   simp only[List.length_set,qy3,List.length_range,qy4,q1,q2,q3,q4,q5,q6,q7,q8,true_and,and_self,hget i him,hget j hjm,List.getD_cons_zero,Value.gI];have hset:(((List.range m).map λx=>[Value.int .u8 (h x)]).set i [Value.int .u8 (h j)]).set j [Value.int .u8 (h i)]=(List.range m).map λx=>[Value.int .u8 (if x=j then h i else if x=i then h j else h x)]:=by
    apply List.ext_getElem?;intro x;simp only[List.getElem?_set,List.getElem?_map,List.length_set,qy3,List.length_range];by_cases hx:x<m
    ·rw[List.getElem?_range hx];by_cases h1:j=x
     ·subst h1;simp[hx]
     ·by_cases h2:i=x
      ·subst h2;simp[hx,h1,Ne.symm h1]
      ·simp[h1,h2,Ne.symm h1,Ne.symm h2]
    ·rw[List.getElem?_eq_none (by simp;omega)];have h1:¬j=x:=by omega
     have h2:¬i=x:=by omega
     simp[h1,h2]
   refine⟨⟨i+1,λx=>if x=j then h i else if x=i then h j else h x,?_,by omega,?_⟩,by omega⟩
   ·rw[hset];simp only[List.cons.injEq,V.i.injEq,and_true,true_and];omega
   ·intro x hx;have a1:=hh i him;have a2:=hh j hjm;rw[if_neg (by omega)]at a1 a2
    show(if x=j then h i else if x=i then h j else h x)=_
    by_cases h1:x=j
    ·subst h1;rw[if_pos rfl,if_pos (by omega),a1];congr 3;congr 2;omega
    ·rw[if_neg h1];by_cases h2:x=i
     ·subst h2;rw[if_pos rfl,if_pos (by omega),a2];congr 3;congr 2;omega
     ·rw[if_neg h2,hh x hx];by_cases h3:x<i\/m - 1<x+i
      ·rw[if_pos h3,if_pos (by omega)]
      ·rw[if_neg h3,if_neg (by omega)]
  ·intro w' hr;refine⟨?_,hr.mod⟩;congr 3
   simp only[numB,List.map_map];refine congrArg List.toArray (List.map_congr_left λx hx=>?_);have hx:x<m:=by simpa using hx
   simp only[Function.comp,List.getD_cons_zero,Value.gI,hh x hx];by_cases h3:x<i\/m - 1<x+i
   ·rw[if_pos h3]
   ·rw[if_neg h3];have:m - 1 - x=x:=by omega
    rw[this]
theorem Zka(x:Nat)(h:x<2 ^ 63):(BitVec.ofInt 64 (x:Int)).toNat=x:=by simp[BitVec.toNat_ofInt];omega
theorem Zye(x:Nat)(h:x<2 ^ 63):IntKind.i64.wrap (x:Int)=x:=by rw[IntKind.wrap_i64];omega
theorem Z156(l:List UInt8)(i:Nat):Value.gI (((l.map λb=>[Value.int .u8 (b.toNat:Int)]).getD i []).getD 0 undef)=((l.getD i 0).toNat:Int):=by simp only[qy1,List.getElem?_map];cases l[i]?<;>rfl
theorem Z12i(s:List UInt8)(i lo hi:Nat)(h:lo+i<hi):((s.take hi).drop lo).getD i 0=s.getD (lo+i) 0:=by simp only[qy1,List.getElem?_drop,List.getElem?_take,if_pos h]
theorem Z157(b:UInt8):b.toNat<256:=b.toNat_lt
def beN:List UInt8->Nat->Nat
 | [],n=>n
 | c::l,n=>beN l (256*n+c.toNat)
theorem Zih(l:List UInt8)(c:UInt8)(n:Nat):beN (l++[c]) n=256*beN l n+c.toNat:=by
 induction l generalizing n with
 | nil=>rfl
 | cons d l ih=>simp[beN,ih]
theorem Z10h(l:List UInt8):∀n,beN l n<(n+1)*pw l.length:=by
 induction l with
 | nil=>intro n;simp[beN,pw]
 | cons c l ih =>
  intro n;have h1:=ih (256*n+c.toNat);have h2:=Z157 c;have h3:(256*n+c.toNat+1)*pw l.length<=(256*(n+1))*pw l.length:=Nat.mul_le_mul_right _ (by omega);simp only[beN,List.length_cons,pw];rw[<- Nat.mul_assoc,Nat.mul_comm (n+1) 256];omega
theorem Zfq(l:List UInt8)(m:Nat)(h:m<l.length):l.take (m+1)=l.take m++[l.getD m 0]:=by rw[List.take_add_one,qy1,qy7 h];rfl
theorem Z12j(n c:Nat)(hn:n<2 ^ 54)(hc:c<256):Zfh .or .i64 (IntKind.i64.wrap ((n:Int)*2 ^ (Nat.min (Int.toNat 8) IntKind.i64.bits))) (c:Int)=((256*n+c:Nat):Int):=by
 have e0:IntKind.i64.wrap ((n:Int)*2 ^ (Nat.min (Int.toNat 8) IntKind.i64.bits))=((n*256:Nat):Int):=by have:Nat.min (Int.toNat 8) IntKind.i64.bits=8:=rfl;rw[this,IntKind.wrap_i64];omega
 rw[e0];simp only[Zfh]
 show IntKind.i64.wrap (((BitVec.ofInt 64 ((n*256:Nat):Int)) ||| (BitVec.ofInt 64 (c:Int))).toNat:Int)=_
 rw[BitVec.toNat_or,Zka _ (by omega),Zka c (by omega)];have e:n*256 ||| c=256*n+c:=by have:=Nat.two_pow_add_eq_or_of_lt (i:=8) (b:=c) (by omega) n;rw[show n*256=2 ^ 8*n by omega,<- this]
 rw[e,Zye _ (by omega)]
def getR(s:List UInt8)(at_ b:Int):Int×Int :=
 if 1<=b/\b<=4 then
  if 0<=at_/\at_<=s.length then
   if(s.length:Int) - at_<b then(0,8)else(beN ((s.drop at_.toNat).take b.toNat) 0,0)
  else(0,3)
 else(0,7)
theorem Ztw{s:List UInt8}{at_ b:Int}(h:¬(1<=b/\b<=4)):getR s at_ b=(0,7):=if_neg h
theorem Zqa{s:List UInt8}{at_ b:Int}(h:1<=b/\b<=4)(h1:¬(0<=at_/\at_<=s.length)):getR s at_ b=(0,3):=by rw[getR,if_pos h,if_neg h1]
theorem Zqb{s:List UInt8}{at_ b:Int}(h:1<=b/\b<=4)(h1:0<=at_/\at_<=s.length)(h2:(s.length:Int) - at_<b):getR s at_ b=(0,8):=by rw[getR,if_pos h,if_pos h1,if_pos h2]
theorem Z12k{s:List UInt8}{at_ b:Int}(h:1<=b/\b<=4)(h1:0<=at_/\at_<=s.length)(h2:¬(s.length:Int) - at_<b):getR s at_ b=(((beN ((s.drop at_.toNat).take b.toNat) 0:Nat):Int),0):=by rw[getR,if_pos h,if_pos h1,if_neg h2]
theorem beN4(s:List UInt8)(at_ m:Nat)(h:m<=4):beN ((s.drop at_).take m) 0<4294967296:=by have h1:=Z10h ((s.drop at_).take m) 0;have h2:pw ((s.drop at_).take m).length<=pw 4:=Zig (by simp;omega);have h3:pw 4=4294967296:=rfl;omega
theorem Zyf(s:List UInt8)(a k:Nat)(h:a+k<s.length):beN ((s.drop a).take (k+1)) 0=256*beN ((s.drop a).take k) 0+(s.getD (a+k) 0).toNat:=by rw[Zfq _ _ (by simp;omega),Zih];simp only[qy1,List.getElem?_drop]
theorem Z12l(w:World)(s:List UInt8)(at_ b:Int)(hs:s.length<4611686018427387904):Calls Tryz.prog 214 #[.string ⟨s.toArray⟩,.int .i64 at_,.int .i64 b] w λe w'=>e=.returned (.tuple #[.int .i64 (getR s at_ b).1,.int .i64 (getR s at_ b).2])/\Mod [] w w':=by
 refine Z1 (Z8 (J:=[.s s,.i at_,.i b]) sxE_ok Tryz.func214 Zhr rfl rfl rfl ?_) rfl;simp only[Tree.goal,X.P,X.ev,SV.ev,CV.ev,Sc.ev,qz,QA,QB,QC,QD,QE,QF,QG,QH,QI,QJ,QK,QL,QM,Nat.reduceAdd];refine⟨λh w' hr=>⟨by rw[Ztw (by omega)],hr.mod⟩,λh=>?_⟩;refine⟨λh1 w' hr=>⟨by rw[Zqa (by omega) h1],hr.mod⟩,λh1=>?_⟩;refine⟨by omega,by omega,λh2 w' hr=>⟨by rw[Zqb (by omega) (by omega) h2],hr.mod⟩,λh2=>?_⟩;obtain⟨a,rfl⟩:∃a:Nat,at_=a:=⟨at_.toNat,by omega⟩
 obtain⟨k,rfl⟩:∃k:Nat,b=k:=⟨b.toNat,by omega⟩
 (repeat refine⟨by omega,?_⟩)
 intro v;refine⟨λvs=>∃m:Nat,vs=[.i (beN ((s.drop a).take m) 0),.i m]/\m<=k,λvs=>(k - (vs.getD 1 (.i 0)).toI).toNat,⟨0,by simp[beN],by omega⟩,?_⟩;rintro _ - ⟨m,rfl,hm⟩;have e0:((a:Int)+(k:Int)).toNat=a+k:=by omega
 simp only[Tree.goal,X.P,X.ev,SV.ev,CV.ev,Sc.ev,qz,QA,QB,QC,QD,QE,QF,QG,QH,QI,QJ,QK,QL,QM,Nat.reduceAdd,qy3,List.length_drop,List.length_take,Z156,qy4,e0];have hb:=beN4 s a m (by omega);refine⟨λh3=>?_,λh3 w' hr=>⟨?_,hr.mod⟩⟩
 ·have e2:=Zyf s a m (by omega);have hc:=Z157 (s.getD (a+m) 0);rw[Z12i _ _ _ _ (by omega),Z12j _ _ (by omega) hc]
  (repeat refine⟨by omega,?_⟩);refine⟨⟨m+1,?_,by omega⟩,by omega⟩
  rw[e2];simp
 ·have:m=k:=by omega
  subst this;rw[Z12k (by omega) (by omega) h2];simp only[qy4]
def p7:Nat->Nat
 | 0=>1
 | k+1=>128*p7 k
theorem Z42(k:Nat)(n:Int):(numB k n).length=k:=by simp[numB]
def txtB(t:List UInt8):List UInt8:=numB 2 t.length++t
theorem Zo8(k n:Nat):numB k (n:Int)=(List.range k).map λj=>UInt8.ofNat (n / pw (k - 1 - j) % 256):=by refine List.map_congr_left λj _=>?_;congr 1
theorem Zkb(k n:Nat):numB (k+1) (n:Int)=numB k ((n / 256:Nat):Int)++[UInt8.ofNat (n % 256)]:=by
 rw[Zo8,Zo8,List.range_succ,List.map_append];congr 1
 ·refine List.map_congr_left λj hj=>?_;have hj:j<k:=by simpa using hj
  have e:k+1 - 1 - j=(k - 1 - j)+1:=by omega
  rw[e]
  show UInt8.ofNat (n / (256*pw (k - 1 - j)) % 256)=UInt8.ofNat (n / 256 / pw (k - 1 - j) % 256)
  rw[Nat.div_div_eq_div_mul]
 ·have e:k+1 - 1 - k=0:=by omega
  rw[List.map_cons,List.map_nil,e];simp[pw]
theorem Zo9:∀(k n:Nat),n<pw k->beN (numB k n) 0=n
 | 0,n,h=>by
  have h:n<1:=h;have:n=0:=by omega
  subst this;rfl
 | k+1,n,h=>by
  have h:n<256*pw k:=h;have ih:=Zo9 k (n / 256) (by omega);rw[Zkb,Zih,ih];have:(UInt8.ofNat (n % 256)).toNat=n % 256:=by simp
  omega
abbrev Ak:=List UInt8×Int
structure Pkt where
 kind:Int
 dup:Bool
 retain:Bool
 clean:Bool
 session:Bool
 qos:Int
 id:Int
 keep:Int
 code:Int
 client:List UInt8
 topic:List UInt8
 payload:List UInt8
 asks:List Ak
 codes:List Int
 deriving DecidableEq
abbrev pD_Q(k:Int):Pkt:=⟨k,false,false,false,false,0,0,0,0,[],[],[],[],[]⟩
def Zm7(k:Int):Bool:=decide ((1<=k/\k<=4)\/(8<=k/\k<=14))
def idB(p:Pkt):Bool:=decide ((p.kind=3/\p.qos=1)\/p.kind=4\/(8<=p.kind/\p.kind<=11))
def cliB(s:List UInt8):Bool:=decide (1<=(s.length:Int)/\(s.length:Int)<=20) && Z1t s
def Z27(p:Pkt):Pkt :=
 if p.kind=1 then { p with client:=[],clean:=false,keep:=0 }
 else if p.kind=2 then { p with code:=0,session:=false }
 else if p.kind=3 then { p with dup:=false,qos:=0,retain:=false,topic:=[],payload:=[],id:=0 }
 else if p.kind=4\/p.kind=11 then { p with id:=0 }
 else if p.kind=8\/p.kind=10 then { p with id:=0,asks:=[] }
 else if p.kind=9 then { p with id:=0,codes:=[] }
 else p
def Zc8(p:Pkt):Bool:=decide (p=pD_Q p.kind)
def Zkc(p:Pkt):Int:=if 20<(p.client.length:Int)then 2 else if cliB p.client=true then(if 0<=p.keep/\p.keep<=65535 then 0 else 3)else 1
def Z6x(p:Pkt):Int:=if 0<=p.code/\p.code<=5 then(if p.session=true/\p.code≠0 then 4 else 0)else 3
def pubE(p:Pkt):Int :=
 if chkT p.topic false=0 then
  if 200<(p.payload.length:Int)then 2
  else if 0<=p.qos/\p.qos<=1 then(if p.qos=0/\(p.dup=true\/p.id≠0)then 1 else 0)else 3
 else chkT p.topic false
def Z59(n:Nat):Int:=if n=0 then 1 else if 5<(n:Int)then 2 else 0
def askE(a:Ak):Int:=if chkT a.1 true=0 then(if 0<=a.2/\a.2<=1 then 0 else 3)else chkT a.1 true
def Z8t(a:Ak):Int:=if chkT a.1 true=0 then(if a.2=0 then 0 else 1)else chkT a.1 true
def Zfr(k:Int):List Ak->Int
 | []=>0
 | a::l=>if(if k=8 then askE a else Z8t a)=0 then Zfr k l else(if k=8 then askE a else Z8t a)
def Zii(p:Pkt):Int:=if Z59 p.asks.length=0 then Zfr p.kind p.asks else Z59 p.asks.length
def Zfs(c:Int):Bool:=decide (c≠0/\c≠1/\c≠128)
def Zgr(p:Pkt):Int:=if Z59 p.codes.length=0 then(if p.codes.any Zfs=true then 3 else 0)else Z59 p.codes.length
def Z2c(p:Pkt):Int :=
 if p.kind=1 then Zkc p else if p.kind=2 then Z6x p else if p.kind=3 then pubE p
 else if p.kind=8\/p.kind=10 then Zii p else if p.kind=9 then Zgr p else 0
def chkP(p:Pkt):Int :=
 if Zm7 p.kind=true then
  if Zc8 (Z27 p)=true then
   if p.kind=3/\pubE p≠0 then pubE p
   else if idB p=true/\¬(1<=p.id/\p.id<=65535)then 3
   else Z2c p
  else 1
 else 7
def Zkd(k:Int)(a:Ak):List UInt8:=txtB a.1++(if k=8 then numB 1 a.2 else[])
def bit(b:Bool)(n:Int):Int:=if b=true then n else 0
def Z12m(p:Pkt):List UInt8 :=
 if p.kind=1 then txtB [77,81,84,84]++(numB 1 4++numB 1 (bit p.clean 2))++numB 2 p.keep++txtB p.client
 else if p.kind=2 then numB 1 (bit p.session 1)++numB 1 p.code
 else if p.kind=3 then txtB p.topic
 else[]
def Z12n(p:Pkt):List UInt8:=Z12m p++(if idB p=true then numB 2 p.id else[])++p.payload++(p.asks.map (Zkd p.kind)).flatten++(p.codes.map (numB 1)).flatten
def rdN(s:List UInt8)(k a:Nat)(b:Bool):Int×Nat×Bool:=if a+k<=s.length then((beN ((s.drop a).take k) 0:Nat),a+k,b)else(0,s.length,true)
def rdT(s:List UInt8)(a:Nat)(b:Bool):List UInt8×Nat×Bool :=
 if a+2<=s.length/\a+2+beN ((s.drop a).take 2) 0<=s.length then((s.drop (a+2)).take (beN ((s.drop a).take 2) 0),a+2+beN ((s.drop a).take 2) 0,b)else([],a,true)
def Z158(s:List UInt8)(a:Nat)(b:Bool):Nat:=if b=true then 0 else s.length+1 - a
abbrev RS:=Pkt×Nat×Bool
def Z175(s:List UInt8)(p:Pkt)(a:Nat)(b:Bool):RS :=
 let t1:=rdT s a b
 let n1:=rdN s 1 t1.2.1 t1.2.2
 let n2:=rdN s 1 n1.2.1 n1.2.2
 let n3:=rdN s 2 n2.2.1 n2.2.2
 let t2:=rdT s n3.2.1 n3.2.2
 ({ p with clean:=decide (n2.1=2),keep:=n3.1,client:=t2.1 },t2.2)
def headD(s:List UInt8)(p:Pkt)(a:Nat)(b:Bool):RS :=
 if p.kind=1 then Z175 s p a b
 else if p.kind=2 then({ p with session:=decide ((rdN s 1 a b).1=1),code:=(rdN s 1 (rdN s 1 a b).2.1 (rdN s 1 a b).2.2).1 },(rdN s 1 (rdN s 1 a b).2.1 (rdN s 1 a b).2.2).2)
 else if p.kind=3 then({ p with topic:=(rdT s a b).1 },(rdT s a b).2)
 else(p,a,b)
theorem Zyg(p:Pkt):Z27 p=pD_Q p.kind↔(p.kind≠1->p.client=[]/\p.clean=false/\p.keep=0)/\(p.kind≠2->p.session=false/\p.code=0) /\ (p.kind≠3->p.dup=false/\p.retain=false/\p.qos=0/\p.topic=[]/\p.payload=[])/\(¬((3<=p.kind/\p.kind<=4)\/(8<=p.kind/\p.kind<=11))->p.id=0) /\ (p.kind≠8/\p.kind≠10->p.asks=[])/\(p.kind≠9->p.codes=[]):=by
 obtain⟨k,d,r,c,s,q,i,ke,co,cl,t,pl,a,cs⟩:=p;unfold Z27;simp only;by_cases h1:k=1
 ·subst h1;simp only[if_true,Pkt.mk.injEq];simp;grind
 rw[if_neg h1];by_cases h2:k=2
 ·subst h2;simp only[if_true,Pkt.mk.injEq];simp;grind
 rw[if_neg h2];by_cases h3:k=3
 ·subst h3;simp only[if_true,Pkt.mk.injEq];simp;grind
 rw[if_neg h3];by_cases h4:k=4\/k=11
 ·rw[if_pos h4];rcases h4 with rfl|rfl<;>simp only[Pkt.mk.injEq]<;>simp<;>grind
 rw[if_neg h4];by_cases h5:k=8\/k=10
 ·rw[if_pos h5];rcases h5 with rfl|rfl<;>simp only[Pkt.mk.injEq]<;>simp<;>grind
 rw[if_neg h5];by_cases h6:k=9
 ·subst h6;simp only[if_true,Pkt.mk.injEq];simp;grind
 rw[if_neg h6];have h7:¬((3<=k/\k<=4)\/(8<=k/\k<=11)):=by omega
 have h8:k≠8/\k≠10:=by omega
 simp only[Pkt.mk.injEq,h7,h8,ne_eq,h1,h2,h3,h6,not_false_eq_true,true_implies,true_and,and_true];grind
structure FormP(p:Pkt):Prop where
 kind:Zm7 p.kind=true
 bare:Z27 p=pD_Q p.kind
 qos:0<=p.qos/\p.qos<=1
 keep:0<=p.keep/\p.keep<65536
 code:0<=p.code/\p.code<256
 id:0<=p.id/\p.id<65536
 noid:idB p=false->p.id=0
 client:p.client.length<65536
 topic:p.topic.length<65536
 asks:∀a∈p.asks,a.1.length<65536/\0<=a.2/\a.2<256/\(p.kind≠8->a.2=0)
 codes:∀c∈p.codes,0<=c/\c<256
theorem Zoa{s:List UInt8}{f:Bool}(h:chkT s f=0):s.length<=60:=by
 unfold chkT at h;split at h
 ·simp at h
 ·split at h
  ·simp at h
  ·omega
theorem Zqc(p:Pkt):(Z27 p).kind=p.kind:=by unfold Z27;(repeat' split)<;>rfl
theorem Ztx(p:Pkt):Zc8 (Z27 p)=true↔Z27 p=pD_Q p.kind:=by simp only[Zc8,decide_eq_true_eq,Zqc]
theorem Zgs{k:Int}:∀{l:List Ak},Zfr k l=0->∀a∈l,chkT a.1 true=0/\0<=a.2/\a.2<=1/\(k≠8->a.2=0)
 | [],_,a,ha=>by simp at ha
 | x::l,h,a,ha=>by
  unfold Zfr at h;generalize hX:(if k=8 then askE x else Z8t x)=X at h
  by_cases h0:X=0
  ·rw[if_pos h0]at h;rw[h0]at hX;rcases List.mem_cons.1 ha with rfl|ha
   ·by_cases hk:k=8
    ·rw[if_pos hk,askE]at hX;split at hX
     ·split at hX
      ·exact⟨‹_›,by omega,by omega,λhh=>absurd hk hh⟩
      ·simp at hX
     ·exact absurd hX ‹_›
    ·rw[if_neg hk,Z8t]at hX;split at hX
     ·split at hX
      ·exact⟨‹_›,by omega,by omega,λ_=>‹_›⟩
      ·simp at hX
     ·exact absurd hX ‹_›
   ·exact Zgs h a ha
  ·rw[if_neg h0]at h;exact absurd h h0
theorem Zob{n:Nat}(h:Z59 n=0):1<=n/\n<=5:=by
 unfold Z59 at h;split at h
 ·simp at h
 ·split at h
  ·simp at h
  ·omega
theorem Zm8{α:Type}(f:α->List UInt8)(m:Nat):∀l:List α,(∀a∈l,(f a).length<=m)->(l.map f).flatten.length<=l.length*m
 | [],_=>by simp
 | a::l,h=>by have h1:=Zm8 f m l λx hx=>h x (qy10 _ hx);have h2:=h a (qy8 ..);simp only[List.map_cons,List.flatten_cons,qy11,List.length_cons,Nat.add_mul,Nat.one_mul];omega
theorem Zij(t:List UInt8):(txtB t).length=t.length+2:=by rw[txtB,qy11,Z42];omega
theorem Zyh{p:Pkt}(h:chkP p=0):FormP p/\(Z12n p).length<=1000:=by
 unfold chkP at h;split at h;rotate_left
 ·simp at h
 rename_i hk;split at h;rotate_left
 ·simp at h
 rename_i he;split at h
 ·rename_i h3;exact absurd h h3.2
 rename_i hp3;split at h
 ·simp at h
 rename_i hid;have hbare:=(Ztx p).1 he;have hb:=(Zyg p).1 hbare;have hk':=hk;simp only[Zm7,decide_eq_true_eq]at hk';obtain⟨b1,b2,b3,b4,b5,b6⟩:=hb;have h1:p.client.length<=20/\0<=p.keep/\p.keep<65536:=by
  by_cases k:p.kind=1
  ·rw[Z2c,if_pos k,Zkc]at h;split at h
   ·simp at h
   ·split at h
    ·split at h
     ·omega
     ·simp at h
    ·simp at h
  ·obtain⟨e1,e2,e3⟩:=b1 k;rw[e1,e3];simp
 have h2:0<=p.code/\p.code<256:=by
  by_cases k:p.kind=2
  ·rw[Z2c,if_neg (by omega),if_pos k,Z6x]at h;split at h
   ·omega
   ·simp at h
  ·obtain⟨e1,e2⟩:=b2 k;omega
 have h3:p.topic.length<=60/\p.payload.length<=200/\0<=p.qos/\p.qos<=1/\(p.kind=3->p.qos=0->p.id=0):=by
  by_cases k:p.kind=3
  ·rw[Z2c,if_neg (by omega),if_neg (by omega),if_pos k,pubE]at h;split at h
   ·have:=Zoa ‹_›;split at h
    ·simp at h
    ·split at h
     ·split at h
      ·simp at h
      ·rename_i hn;refine⟨this,by omega,by omega,by omega,λ_ hq=>?_⟩;exact Classical.byContradiction λhi=>hn ⟨hq,.inr hi⟩
     ·simp at h
   ·exact absurd h ‹_›
  ·obtain⟨e1,e2,e3,e4,e5⟩:=b3 k;rw[e3,e4,e5];simp[k]
 have h4:p.asks.length<=5/\∀a∈p.asks,a.1.length<=60/\0<=a.2/\a.2<256/\(p.kind≠8->a.2=0):=by
  by_cases k:p.kind=8\/p.kind=10
  ·rw[Z2c,if_neg (by omega),if_neg (by omega),if_neg (by omega),if_pos k,Zii]at h;split at h
   ·have hc:=Zob ‹_›;refine⟨hc.2,λa ha=>?_⟩;obtain⟨a1,a2,a3,a4⟩:=Zgs h a ha;exact⟨Zoa a1,a2,by omega,a4⟩
   ·exact absurd h ‹_›
  ·have e:=b5 (by omega);rw[e];simp
 have h5:p.codes.length<=5/\∀c∈p.codes,0<=c/\c<256:=by
  by_cases k:p.kind=9
  ·rw[Z2c,if_neg (by omega),if_neg (by omega),if_neg (by omega),if_neg (by omega),if_pos k,Zgr]at h;split at h
   ·have hc:=Zob ‹_›;refine⟨hc.2,λc hcm=>?_⟩;split at h
    ·simp at h
    ·rename_i hn;have:Zfs c=false:=by
      cases hcb:Zfs c
      ·rfl
      ·exact absurd (List.any_eq_true.2 ⟨c,hcm,hcb⟩) hn
     simp only[Zfs,decide_eq_false_iff_not]at this;omega
   ·exact absurd h ‹_›
  ·have e:=b6 k;rw[e];simp
 have hid2:(0<=p.id/\p.id<65536)/\(idB p=false->p.id=0):=by
  by_cases hi:idB p=true
  ·have:1<=p.id/\p.id<=65535:=Classical.byContradiction λhn=>hid ⟨hi,hn⟩;exact⟨by omega,λhf=>by rw[hi]at hf;simp at hf⟩
  ·have h0:p.id=0:=by
    by_cases k:p.kind=3
    ·refine h3.2.2.2.2 k ?_;have:¬p.qos=1:=λhq=>hi (by simp[idB,k,hq]);omega
    ·refine b4 λhk2=>hi ?_;simp only[idB,decide_eq_true_eq];omega
   rw[h0];simp
 refine⟨⟨hk,hbare,h3.2.2.1 |> λa=>⟨a,h3.2.2.2.1⟩,h1.2,h2,hid2.1,hid2.2,by omega,by omega,λa ha=>?_,h5.2⟩,?_⟩
 ·obtain⟨a1,a2⟩:=h4.2 a ha;exact⟨by omega,a2⟩
 ·have e1:(Z12m p).length<=64:=by
   unfold Z12m;split
   ·simp only[qy11,Zij,Z42,List.length_cons,List.length_nil];omega
   ·split
    ·simp only[qy11,Z42];omega
    ·split
     ·rw[Zij];omega
     ·simp
  have e2:(if idB p=true then numB 2 p.id else[]).length<=2:=by
   split
   ·rw[Z42];omega
   ·simp
  have e3:=Zm8 (Zkd p.kind) 63 p.asks λa ha=>by
   have:=(h4.2 a ha).1;unfold Zkd;rw[qy11,Zij];split
   ·rw[Z42];omega
   ·simp;omega
  have e4:=Zm8 (numB 1) 1 p.codes λc _=>by rw[Z42];omega
  have e5:p.asks.length*63<=5*63:=Nat.mul_le_mul_right _ h4.1;unfold Z12n;simp only[qy11];omega
def encA(a:Ak):List Value:=[.string ⟨a.1.toArray⟩,.int .i64 a.2]
def Z1i(n:Int):List Value:=[.int .i64 n]
abbrev aD:Ak:=([],0)
abbrev Z7a(w:World)(v:Value)(l:List Ak):Prop:=reads w v [.str,.int .i64] (l.map encA)
abbrev Z64(w:World)(v:Value)(l:List Int):Prop:=reads w v [.int .i64] (l.map Z1i)
theorem Zgt(w:World):Z7a w (.slice none 0 0) []:=⟨by simp,none,0,rfl,⟨λ_=>rfl,Nat.le_refl _⟩,λh=>absurd rfl h⟩
theorem Zqd(w:World):Z64 w (.slice none 0 0) []:=⟨by simp,none,0,rfl,⟨λ_=>rfl,Nat.le_refl _⟩,λh=>absurd rfl h⟩
theorem gA0(l:List Ak)(i:Nat):Value.gS (((l.map encA).getD i []).getD 0 undef)=(l.getD i aD).1:=by simp only[qy1,List.getElem?_map];cases l[i]?<;>simp[encA,Value.gS,undef]
theorem gA1(l:List Ak)(i:Nat):Value.gI (((l.map encA).getD i []).getD 1 undef)=(l.getD i aD).2:=by simp only[qy1,List.getElem?_map];cases l[i]?<;>simp[encA,Value.gI,undef]
theorem gI0(l:List Int)(i:Nat):Value.gI (((l.map Z1i).getD i []).getD 0 undef)=l.getD i 0:=by simp only[qy1,List.getElem?_map];cases l[i]?<;>simp[Z1i,Value.gI,undef]
theorem Z159(l:List Ak)(i:Nat)(h:i<l.length):l.drop i=l.getD i aD::l.drop (i+1):=by rw[List.drop_eq_getElem_cons h,qy1,qy7 h];rfl
theorem Z176(l:List Int)(i:Nat)(h:i<l.length):l.drop i=l.getD i 0::l.drop (i+1):=by rw[List.drop_eq_getElem_cons h,qy1,qy7 h];rfl
def pV(p:Pkt)(u v:Value):Value:=.agg #[.int .i64 p.kind,.bool p.dup,.bool p.retain,.bool p.clean,.bool p.session,.int .i64 p.qos,.int .i64 p.id,.int .i64 p.keep,.int .i64 p.code,.string ⟨p.client.toArray⟩,.string ⟨p.topic.toArray⟩,.string ⟨p.payload.toArray⟩,sc1 u,sc1 v]
structure SmallP(p:Pkt):Prop where
 client:p.client.length<1000000000
 topic:p.topic.length<1000000000
 payload:p.payload.length<1000000000
 asks:p.asks.length<1000000000
 codes:p.codes.length<1000000000
 filt:∀a∈p.asks,a.1.length<1000000000
theorem SmallP.at_{p:Pkt}(h:SmallP p)(i:Nat):(p.asks.getD i aD).1.length<1000000000:=by
 by_cases hi:i<p.asks.length
 ·rw[qy1,qy7 hi];exact h.filt _ (List.getElem_mem hi)
 ·rw[qy1,List.getElem?_eq_none (by omega)];decide
theorem SmallP.bare{p:Pkt}(h:SmallP p):SmallP (Z27 p):=by
 obtain⟨a,b,c,d,e,f⟩:=h;unfold Z27
 (repeat' split)<;>exact⟨by simp_all,by simp_all,by simp_all,by simp_all,by simp_all,by first|exact f|(intro a ha;simp at ha)⟩
theorem Z12o(w:World)(n:Int):Calls Tryz.prog 82 #[.int .i64 n] w λe w'=>e=.returned (.bool (Zm7 n))/\Mod [] w w':=by refine Z1 (Z8 (J:=[.i n]) sxE_ok Tryz.func82 Zck rfl rfl rfl ?_) rfl;simp only[Tree.goal,X.P,X.ev,SV.ev,CV.ev,Sc.ev,qz,QA,QB,QC,QD,QE,QF,QG,QH,QI,QJ,QK,QL,QM,Nat.reduceAdd];exact⟨λh w' hr=>⟨by simp[Zm7,h],hr.mod⟩,λh w' hr=>⟨by simp[Zm7,h],hr.mod⟩⟩
theorem Zke(w:World)(s:List UInt8)(hs:s.length<1099511627776):Calls Tryz.prog 18 #[.string ⟨s.toArray⟩] w λe w'=>e=.returned (.bool (cliB s))/\Mod [] w w':=by refine Z1 (Z8 (J:=[.s s]) sxE_ok Tryz.func18 Z58 rfl rfl rfl ?_) rfl;simp only[Tree.goal,X.P,X.ev,SV.ev,CV.ev,Sc.ev,qz,QA,QB,QC,QD,QE,QF,QG,QH,QI,QJ,QK,QL,QM,Nat.reduceAdd];refine⟨[.b (Z1t s)],rfl,λ_ w' _=>Zhu w' s hs,?_⟩;simp only[Tree.goal,X.P,X.ev,SV.ev,CV.ev,Sc.ev,qz,QA,QB,QC,QD,QE,QF,QG,QH,QI,QJ,QK,QL,QM,Nat.reduceAdd];exact λw' hr=>⟨by simp[cliB],hr.mod⟩
theorem Zty(w:World)(n:Nat):Calls Tryz.prog 186 #[.int .i64 n] w λe w'=>e=.returned (.int .i64 (Z59 n))/\Mod [] w w':=by
 refine Z1 (Z8 (J:=[.i n]) sxE_ok Tryz.func186 Zb9 rfl rfl rfl ?_) rfl;simp only[Tree.goal,X.P,X.ev,SV.ev,CV.ev,Sc.ev,qz,QA,QB,QC,QD,QE,QF,QG,QH,QI,QJ,QK,QL,QM,Nat.reduceAdd];refine⟨λh w' hr=>⟨?_,hr.mod⟩,λh=>⟨λh1 w' hr=>⟨?_,hr.mod⟩,λh1 w' hr=>⟨?_,hr.mod⟩⟩⟩
 ·rw[Z59,if_pos (by omega)]
 ·rw[Z59,if_neg (by omega),if_pos (by omega)]
 ·rw[Z59,if_neg (by omega),if_neg (by omega)]
theorem Z10i(w:World)(a:Ak)(h:a.1.length<1000000000):Calls Tryz.prog 168 #[.agg #[.string ⟨a.1.toArray⟩,.int .i64 a.2]] w λe w'=>e=.returned (.int .i64 (askE a))/\Mod [] w w':=by
 refine Z1 (Z8 (J:=[.s a.1,.i a.2]) sxE_ok Tryz.func168 Zee rfl rfl rfl ?_) rfl;simp only[Tree.goal,X.P,X.ev,SV.ev,CV.ev,Sc.ev,qz,QA,QB,QC,QD,QE,QF,QG,QH,QI,QJ,QK,QL,QM,Nat.reduceAdd];intro b;refine⟨[.i (chkT a.1 true)],rfl,λ_ w' _=>Zny w' _ (by omega),?_⟩;simp only[Tree.goal,X.P,X.ev,SV.ev,CV.ev,Sc.ev,qz,QA,QB,QC,QD,QE,QF,QG,QH,QI,QJ,QK,QL,QM,Nat.reduceAdd];refine⟨λh w' hr=>⟨by rw[askE,if_neg h],hr.mod⟩,λh=>⟨λh1 w' hr=>⟨?_,hr.mod⟩,λh1 w' hr=>⟨?_,hr.mod⟩⟩⟩
 ·rw[askE,if_pos (qy9.1 h),if_neg h1]
 ·rw[askE,if_pos (qy9.1 h),if_pos (qy9.1 h1)]
section
variable (w:World) (p:Pkt) (u v:Value) (hu:Z7a w u p.asks) (hv:Z64 w v p.codes) (hs:SmallP p)
include hu hv
theorem Z15a:Calls Tryz.prog 86 #[pV p u v] w λe w'=>e=.returned (.bool (idB p))/\Mod [] w w':=by
 refine Z1 (Z3 (J:=[.i p.kind,.b p.dup,.b p.retain,.b p.clean,.b p.session,.i p.qos,.i p.id,.i p.keep,.i p.code,.s p.client,.s p.topic,.s p.payload,.v u,.r (p.asks.map encA),.v v,.r (p.codes.map Z1i)]) sxE_ok Tryz.func86 Zfn rfl rfl (Rel.start2 (by simp[Ent.holds,Ent.wr,hu,hv,X.ev])) rfl rfl ?_) rfl;simp only[Tree.goal,X.P,X.ev,SV.ev,CV.ev,Sc.ev,qz,QA,QB,QC,QD,QE,QF,QG,QH,QI,QJ,QK,QL,QM,Nat.reduceAdd];intro b;refine⟨λh w' hr=>⟨?_,hr.mod⟩,λh=>⟨λh1 w' hr=>⟨?_,hr.mod⟩,λh1=>⟨λh2 w' hr=>⟨?_,hr.mod⟩,λh2=>⟨λh3 w' hr=>⟨?_,hr.mod⟩,λh3=>⟨λh4 w' hr=>⟨?_,hr.mod⟩,λh4=>⟨λh5 w' hr=>⟨?_,hr.mod⟩,λh5 w' hr=>⟨?_,hr.mod⟩⟩⟩⟩⟩⟩⟩ <;>
  (simp only[idB,Ending.returned.injEq,Value.bool.injEq];first|exact decide_eq_decide.2 (by omega)|(symm;simp only[decide_eq_true_eq,decide_eq_false_iff_not];omega))
theorem Zqe:Calls Tryz.prog 145 #[pV p u v] w λe w'=>e=.returned (.int .i64 (Z6x p))/\Mod [] w w':=by
 refine Z1 (Z3 (J:=[.i p.kind,.b p.dup,.b p.retain,.b p.clean,.b p.session,.i p.qos,.i p.id,.i p.keep,.i p.code,.s p.client,.s p.topic,.s p.payload,.v u,.r (p.asks.map encA),.v v,.r (p.codes.map Z1i)]) sxE_ok Tryz.func145 Z95 rfl rfl (Rel.start2 (by simp[Ent.holds,Ent.wr,hu,hv,X.ev])) rfl rfl ?_) rfl;simp only[Tree.goal,X.P,X.ev,SV.ev,CV.ev,Sc.ev,qz,QA,QB,QC,QD,QE,QF,QG,QH,QI,QJ,QK,QL,QM,Nat.reduceAdd];intro b;refine⟨λh w' hr=>⟨by rw[Z6x,if_neg h],hr.mod⟩,λh=>⟨λh2 w' hr=>⟨?_,hr.mod⟩,λh2 w' hr=>⟨?_,hr.mod⟩⟩⟩
 ·rw[Z6x,if_pos (qy9.1 h),if_pos h2]
 ·rw[Z6x,if_pos (qy9.1 h),if_neg h2]
include hs
theorem Zyi:Calls Tryz.prog 83 #[pV p u v] w λe w'=>e=.returned (.bool (Zc8 p))/\Mod [] w w':=by
 refine Z1 (Z3 (J:=[.i p.kind,.b p.dup,.b p.retain,.b p.clean,.b p.session,.i p.qos,.i p.id,.i p.keep,.i p.code,.s p.client,.s p.topic,.s p.payload,.v u,.r (p.asks.map encA),.v v,.r (p.codes.map Z1i)]) sxE_ok Tryz.func83 Zbf rfl rfl (Rel.start2 (by simp[Ent.holds,Ent.wr,hu,hv,X.ev])) rfl rfl ?_) rfl;have h1:=hs.client;have h2:=hs.topic;have h3:=hs.payload;have h4:=hs.asks;have h5:=hs.codes;simp only[Tree.goal,X.P,X.ev,SV.ev,CV.ev,Sc.ev,qz,QA,QB,QC,QD,QE,QF,QG,QH,QI,QJ,QK,QL,QM,Nat.reduceAdd,qy3,qy11];intro b;refine⟨.inr (by omega),.inr (by omega),.inr (by omega),λw' hr=>⟨?_,hr.mod⟩⟩;obtain⟨k,d,r,c,se,q,i,ke,co,cl,t,pl,az,cs⟩:=p;simp only[Zc8,Ending.returned.injEq,Value.bool.injEq,Pkt.mk.injEq];have e1:((az.length:Int)+(cs.length:Int)=0)↔az=[]/\cs=[]:=by rw[<- List.length_eq_zero_iff,<- List.length_eq_zero_iff];omega
 rw[Bool.eq_iff_iff];simp only[Bool.and_eq_true,Bool.not_eq_true',decide_eq_true_eq,e1,List.append_eq_nil_iff];constructor<;>(intro h;simp_all)
theorem Zqf:Calls Tryz.prog 144 #[pV p u v] w λe w'=>e=.returned (.int .i64 (Zkc p))/\Mod [] w w':=by
 refine Z1 (Z3 (J:=[.i p.kind,.b p.dup,.b p.retain,.b p.clean,.b p.session,.i p.qos,.i p.id,.i p.keep,.i p.code,.s p.client,.s p.topic,.s p.payload,.v u,.r (p.asks.map encA),.v v,.r (p.codes.map Z1i)]) sxE_ok Tryz.func144 Z93 rfl rfl (Rel.start2 (by simp[Ent.holds,Ent.wr,hu,hv,X.ev])) rfl rfl ?_) rfl;have h1:=hs.client;simp only[Tree.goal,X.P,X.ev,SV.ev,CV.ev,Sc.ev,qz,QA,QB,QC,QD,QE,QF,QG,QH,QI,QJ,QK,QL,QM,Nat.reduceAdd];intro b;refine⟨λh w' hr=>⟨by rw[Zkc,if_pos h],hr.mod⟩,λh=>?_⟩;refine⟨[.b (cliB p.client)],rfl,λ_ w' _=>Zke w' _ (by omega),?_⟩;simp only[Tree.goal,X.P,X.ev,SV.ev,CV.ev,Sc.ev,qz,QA,QB,QC,QD,QE,QF,QG,QH,QI,QJ,QK,QL,QM,Nat.reduceAdd];refine⟨λh2 w' hr=>⟨by rw[Zkc,if_neg h,if_neg h2],hr.mod⟩,λh2=>⟨λh3 w' hr=>⟨?_,hr.mod⟩,λh3 w' hr=>⟨?_,hr.mod⟩⟩⟩
 ·rw[Zkc,if_neg h,if_pos (qy9.1 h2),if_neg h3]
 ·rw[Zkc,if_neg h,if_pos (qy9.1 h2),if_pos (qy9.1 h3)]
theorem Zgu:Calls Tryz.prog 85 #[pV p u v] w λe w'=>e=.returned (.int .i64 (pubE p))/\Mod [] w w':=by
 refine Z1 (Z3 (J:=[.i p.kind,.b p.dup,.b p.retain,.b p.clean,.b p.session,.i p.qos,.i p.id,.i p.keep,.i p.code,.s p.client,.s p.topic,.s p.payload,.v u,.r (p.asks.map encA),.v v,.r (p.codes.map Z1i)]) sxE_ok Tryz.func85 Z94 rfl rfl (Rel.start2 (by simp[Ent.holds,Ent.wr,hu,hv,X.ev])) rfl rfl ?_) rfl;have h1:=hs.topic;simp only[Tree.goal,X.P,X.ev,SV.ev,CV.ev,Sc.ev,qz,QA,QB,QC,QD,QE,QF,QG,QH,QI,QJ,QK,QL,QM,Nat.reduceAdd];intro b;refine⟨[.i (chkT p.topic false)],rfl,λ_ w' _=>Zjt w' _ (by omega),?_⟩;simp only[Tree.goal,X.P,X.ev,SV.ev,CV.ev,Sc.ev,qz,QA,QB,QC,QD,QE,QF,QG,QH,QI,QJ,QK,QL,QM,Nat.reduceAdd];refine⟨λh w' hr=>⟨by rw[pubE,if_neg h],hr.mod⟩,λh=>?_⟩;have h:=qy9.1 h;refine⟨λh2 w' hr=>⟨by rw[pubE,if_pos h,if_pos h2],hr.mod⟩,λh2=>⟨λh3 w' hr=>⟨?_,hr.mod⟩,λh3=>⟨λh4 w' hr=>⟨?_,hr.mod⟩,λh4 w' hr=>⟨?_,hr.mod⟩⟩⟩⟩
 ·rw[pubE,if_pos h,if_neg h2,if_neg h3]
 ·rw[pubE,if_pos h,if_neg h2,if_pos (qy9.1 h3),if_pos h4]
 ·rw[pubE,if_pos h,if_neg h2,if_pos (qy9.1 h3),if_neg h4]
theorem Ztz:Calls Tryz.prog 146 #[pV p u v] w λe w'=>e=.returned (.int .i64 (Zii p))/\Mod [] w w':=by
 refine Z1 (Z3 (J:=[.i p.kind,.b p.dup,.b p.retain,.b p.clean,.b p.session,.i p.qos,.i p.id,.i p.keep,.i p.code,.s p.client,.s p.topic,.s p.payload,.v u,.r (p.asks.map encA),.v v,.r (p.codes.map Z1i)]) sxE_ok Tryz.func146 Zcl rfl rfl (Rel.start2 (by simp[Ent.holds,Ent.wr,hu,hv,X.ev])) rfl rfl ?_) rfl;have h1:=hs.asks;have hf:=hs.at_;simp only[Tree.goal,X.P,X.ev,SV.ev,CV.ev,Sc.ev,qz,QA,QB,QC,QD,QE,QF,QG,QH,QI,QJ,QK,QL,QM,Nat.reduceAdd,qy3];intro b;refine⟨[.i (Z59 p.asks.length)],rfl,λ_ w' _=>Zty w' _,?_⟩;simp only[Tree.goal,X.P,X.ev,SV.ev,CV.ev,Sc.ev,qz,QA,QB,QC,QD,QE,QF,QG,QH,QI,QJ,QK,QL,QM,Nat.reduceAdd,qy3];refine⟨λh w' hr=>⟨by rw[Zii,if_neg h],hr.mod⟩,λh=>?_⟩;have h:=qy9.1 h;rw[Zii,if_pos h];refine⟨λvs=>∃(i:Nat) (x:V),vs=[x,.i i]/\i<=p.asks.length/\Zfr p.kind (p.asks.drop i)=Zfr p.kind p.asks,λvs=>p.asks.length - (vs.getD 1 (.i 0)).toI.toNat,⟨0,_,rfl,by omega,rfl⟩,?_⟩;rintro _ - ⟨i,x,rfl,hi,hg⟩;simp only[Tree.goal,X.P,X.ev,SV.ev,CV.ev,Sc.ev,qz,QA,QB,QC,QD,QE,QF,QG,QH,QI,QJ,QK,QL,QM,Nat.reduceAdd,qy3,qy4,gA0,gA1];refine⟨λh2=>⟨by omega,λb=>⟨λhk=>?_,λhk=>?_⟩⟩,λh2 w' hr=>⟨?_,hr.mod⟩⟩
 ·rw[Z159 _ _ (by omega),Zfr,if_pos hk]at hg;refine⟨[.i (askE (p.asks.getD i aD))],rfl,λ_ w' _=>Z10i w' _ (hf i),?_⟩;simp only[Tree.goal,X.P,X.ev,SV.ev,CV.ev,Sc.ev,qz,QA,QB,QC,QD,QE,QF,QG,QH,QI,QJ,QK,QL,QM,Nat.reduceAdd];refine⟨λh3 w' hr=>⟨by rw[<- hg,if_neg h3],hr.mod⟩,λh3=>⟨by omega,by omega,⟨i+1,x,rfl,by omega,?_⟩,by omega⟩⟩;rw[<- hg,if_pos (qy9.1 h3)]
 ·rw[Z159 _ _ (by omega),Zfr,if_neg hk]at hg;have:=hf i;refine⟨[.i (chkT (p.asks.getD i aD).1 true)],rfl,λ_ w' _=>Zny w' _ (by omega),?_⟩;simp only[Tree.goal,X.P,X.ev,SV.ev,CV.ev,Sc.ev,qz,QA,QB,QC,QD,QE,QF,QG,QH,QI,QJ,QK,QL,QM,Nat.reduceAdd,gA1];refine⟨λh3 w' hr=>⟨?_,hr.mod⟩,λh3=>⟨λh4 w' hr=>⟨?_,hr.mod⟩,λh4=>⟨by omega,by omega,⟨i+1,x,rfl,by omega,?_⟩,by omega⟩⟩⟩
  ·have e:Z8t (p.asks.getD i aD)=chkT (p.asks.getD i aD).1 true:=by rw[Z8t,if_neg h3]
   rw[<- hg,e,if_neg h3]
  ·have e:Z8t (p.asks.getD i aD)=1:=by rw[Z8t,if_pos (qy9.1 h3),if_neg h4]
   rw[<- hg,e];rfl
  ·have e:Z8t (p.asks.getD i aD)=0:=by rw[Z8t,if_pos (qy9.1 h3),if_pos (qy9.1 h4)]
   rw[<- hg,e];rfl
 ·have:i=p.asks.length:=by omega
  subst this;rw[List.drop_length]at hg;rw[<- hg];rfl
theorem Zyj:Calls Tryz.prog 147 #[pV p u v] w λe w'=>e=.returned (.int .i64 (Zgr p))/\Mod [] w w':=by
 refine Z1 (Z3 (J:=[.i p.kind,.b p.dup,.b p.retain,.b p.clean,.b p.session,.i p.qos,.i p.id,.i p.keep,.i p.code,.s p.client,.s p.topic,.s p.payload,.v u,.r (p.asks.map encA),.v v,.r (p.codes.map Z1i)]) sxE_ok Tryz.func147 Zbb rfl rfl (Rel.start2 (by simp[Ent.holds,Ent.wr,hu,hv,X.ev])) rfl rfl ?_) rfl;have h1:=hs.codes;simp only[Tree.goal,X.P,X.ev,SV.ev,CV.ev,Sc.ev,qz,QA,QB,QC,QD,QE,QF,QG,QH,QI,QJ,QK,QL,QM,Nat.reduceAdd,qy3];intro b;refine⟨[.i (Z59 p.codes.length)],rfl,λ_ w' _=>Zty w' _,?_⟩;simp only[Tree.goal,X.P,X.ev,SV.ev,CV.ev,Sc.ev,qz,QA,QB,QC,QD,QE,QF,QG,QH,QI,QJ,QK,QL,QM,Nat.reduceAdd,qy3];refine⟨λh w' hr=>⟨by rw[Zgr,if_neg h],hr.mod⟩,λh=>?_⟩;have h:=qy9.1 h;rw[Zgr,if_pos h];refine⟨λvs=>∃(i:Nat) (x:V),vs=[x,.i i]/\i<=p.codes.length/\(p.codes.drop i).any Zfs=p.codes.any Zfs,λvs=>p.codes.length - (vs.getD 1 (.i 0)).toI.toNat,⟨0,_,rfl,by omega,rfl⟩,?_⟩;rintro _ - ⟨i,x,rfl,hi,hg⟩;simp only[Tree.goal,X.P,X.ev,SV.ev,CV.ev,Sc.ev,qz,QA,QB,QC,QD,QE,QF,QG,QH,QI,QJ,QK,QL,QM,Nat.reduceAdd,qy3,qy4,gI0];refine⟨λh2=>?_,λh2=>?_⟩
 ·rw[Z176 _ _ (by omega),List.any_cons]at hg;refine⟨by omega,λh3 w' hr=>⟨?_,hr.mod⟩,λh3=>⟨by omega,by omega,⟨i+1,x,rfl,by omega,?_⟩,by omega⟩⟩
  ·have e:Zfs (p.codes.getD i 0)=true:=by simp only[Zfs,decide_eq_true_eq];exact⟨h3.1.1,h3.1.2,h3.2⟩
   rw[<- hg,e];rfl
  ·have e:Zfs (p.codes.getD i 0)=false:=by
    simp only[Zfs,decide_eq_false_iff_not];exact λh4=>h3 ⟨⟨h4.1,h4.2.1⟩,h4.2.2⟩
   rw[<- hg,e];rfl
 ·have:i=p.codes.length:=by omega
  subst this;rw[List.drop_length]at hg;rw[<- hg];exact⟨λh3=>absurd h3 (by omega),λh3 w' hr=>⟨rfl,hr.mod⟩⟩
end
end Go.Proofs.Y
namespace Go.Proofs.Y
open Go.Sx
abbrev wV(x:Wt):Value:=.agg #[.string ⟨x.1.toArray⟩,.string ⟨x.2.1.toArray⟩,.int .i64 x.2.2]
theorem c_Or(w:World)(v:Value)(x y:Int)(hv:reads w v [.int .i64] [[.int .i64 x],[.int .i64 y]]):Calls Tryz.prog 169 #[sc1 v] w λe w'=>e=.returned (.int .i64 (if x=0 then y else x))/\Mod [] w w':=by
  refine Z1 (Z3 (J:=[.v v,.r [[.int .i64 x],[.int .i64 y]]]) sxE_ok Tryz.func169 Ze9 rfl rfl (Rel.start2 (by simp[Ent.holds,Ent.wr,hv,X.ev])) rfl rfl ?_) rfl;simp only[Tree.goal,X.P,X.ev,SV.ev,CV.ev,Sc.ev,qz,QA,QB,QC,QD,QE,QF,QG,QH,QI,QJ,QK,QL,QM,Nat.reduceAdd];refine⟨λvs=>∃(i:Nat) (u:V),vs=[u,.i i]/\i<=2/\(1<=i->x=0)/\(2<=i->y=0),λvs=>2 - (vs.getD 1 (.i 0)).toI.toNat,⟨0,_,rfl,by omega,λh=>by omega,λh=>by omega⟩,?_⟩;rintro _ - ⟨i,u,rfl,hi,h1,h2⟩;have h3:i=0\/i=1\/i=2:=by omega
  rcases h3 with rfl|rfl|rfl
  . simp only[Tree.goal,X.P,X.ev,SV.ev,CV.ev,Sc.ev,qz,QA,QB,QC,QD,QE,QF,QG,QH,QI,QJ,QK,QL,QM,Nat.reduceAdd];refine⟨λ_=>⟨by omega,λh w' hr=>⟨?_,hr.mod⟩,λh=>⟨by omega,by omega,⟨1,_,rfl,by omega,λ_=>?_,λh=>by omega⟩,by simp⟩⟩,λh=>by simp at h⟩
    . rw[if_neg (show ¬x=0 from h)];rfl
    . exact qy9.1 h
  . have hx:=h1 (Nat.le_refl _);simp only[Tree.goal,X.P,X.ev,SV.ev,CV.ev,Sc.ev,qz,QA,QB,QC,QD,QE,QF,QG,QH,QI,QJ,QK,QL,QM,Nat.reduceAdd];refine⟨λ_=>⟨by omega,λh w' hr=>⟨?_,hr.mod⟩,λh=>⟨by omega,by omega,⟨2,_,rfl,by omega,λ_=>hx,λ_=>?_⟩,by simp⟩⟩,λh=>by simp at h⟩
    . rw[if_pos hx];rfl
    . exact qy9.1 h
  . have hx:=h1 (by omega);have hy:=h2 (by omega);simp only[Tree.goal,X.P,X.ev,SV.ev,CV.ev,Sc.ev,qz,QA,QB,QC,QD,QE,QF,QG,QH,QI,QJ,QK,QL,QM,Nat.reduceAdd];refine⟨λh=>by simp at h,λ_ w' hr=>⟨?_,hr.mod⟩⟩;rw[if_pos hx,hy]
theorem Zm9(w:World)(a b:Wt):Calls Tryz.prog 118 #[wV a,wV b] w λe w'=>e=.returned (.int .i64 (cmpP (ky a) (ky b)))/\Mod [] w w':=by refine Z1 (Z8 (J:=[.s a.1,.s a.2.1,.i a.2.2,.s b.1,.s b.2.1,.i b.2.2]) (sxE_ok.joins _) Tryz.func118 Ze6 rfl rfl rfl ?_) rfl;simp only[Tree.goal,X.P,X.ev,SV.ev,CV.ev,Sc.ev,qz,QA,QB,QC,QD,QE,QF,QG,QH,QI,QJ,QK,QL,QM,Nat.reduceAdd];intro b1 b2;refine⟨[.i (Z34 a.1 b.1)],rfl,λ_ w' _=>Z6v w' _ _,?_⟩;simp only[Tree.goal,X.P,X.ev,SV.ev,CV.ev,Sc.ev,qz,QA,QB,QC,QD,QE,QF,QG,QH,QI,QJ,QK,QL,QM,Nat.reduceAdd];refine⟨[.i (Z34 a.2.1 b.2.1)],rfl,λ_ w' _=>Z6v w' _ _,?_⟩;simp only[Tree.goal,X.P,X.ev,SV.ev,CV.ev,Sc.ev,qz,QA,QB,QC,QD,QE,QF,QG,QH,QI,QJ,QK,QL,QM,Nat.reduceAdd];intro v;refine⟨[.i (cmpP (ky a) (ky b))],rfl,λ_ w' hr=>c_Or w' v _ _ (hr.at_ 0 rfl).reads,?_⟩;simp only[Tree.goal,X.P,X.ev,SV.ev,CV.ev,Sc.ev,qz,QA,QB,QC,QD,QE,QF,QG,QH,QI,QJ,QK,QL,QM,Nat.reduceAdd];exact λw' hr=>⟨by trivial,hr.mod⟩
def Z2u(x:Wt):Int:=if cliB x.1=true then askE (x.2.1,x.2.2)else 1
theorem Z12p(w:World)(x:Wt)(hs:smW x):Calls Tryz.prog 117 #[wV x] w λe w'=>e=.returned (.int .i64 (Z2u x))/\Mod [] w w':=by have h1:=hs.1;have h2:=hs.2;refine Z1 (Z8 (J:=[.s x.1,.s x.2.1,.i x.2.2]) sxE_ok Tryz.func117 Zhs rfl rfl rfl ?_) rfl;simp only[Tree.goal,X.P,X.ev,SV.ev,CV.ev,Sc.ev,qz,QA,QB,QC,QD,QE,QF,QG,QH,QI,QJ,QK,QL,QM,Nat.reduceAdd];intro b1;refine⟨[.b (cliB x.1)],rfl,λ_ w' _=>Zke w' _ (by omega),?_⟩;simp only[Tree.goal,X.P,X.ev,SV.ev,CV.ev,Sc.ev,qz,QA,QB,QC,QD,QE,QF,QG,QH,QI,QJ,QK,QL,QM,Nat.reduceAdd];refine⟨λh w' hr=>⟨by rw[Z2u,if_neg h],hr.mod⟩,λh=>?_⟩;have h:=qy9.1 h;refine⟨[.i (askE (x.2.1,x.2.2))],rfl,λ_ w' _=>Z10i w' (x.2.1,x.2.2) h2,?_⟩;simp only[Tree.goal,X.P,X.ev,SV.ev,CV.ev,Sc.ev,qz,QA,QB,QC,QD,QE,QF,QG,QH,QI,QJ,QK,QL,QM,Nat.reduceAdd];exact λw' hr=>⟨by rw[Z2u,if_pos h],hr.mod⟩
def Zct:Option Ky->List Wt->Int
  | _,[]=>0
  | p,k::l=>if Z2u k≠0 then Z2u k else if(p.any λt=>!(ltP t (ky k)))=true then 4 else Zct (some (ky k)) l
def Zj(l:List Wt):Int:=if 20<(l.length:Int)then 2 else Zct none l
def Zqg(l:List Wt)(i:Nat):Option Ky:=if i=0 then none else some (ky (l.getD (i - 1) wD_V))
theorem Zu0(l:List Wt)(i:Nat):((Zqg l i).any λt=>!(ltP t (ky (l.getD i wD_V))))=true↔(0<(i:Int)/\0<=cmpP (ky (l.getD (i - 1) wD_V)) (ky (l.getD i wD_V))):=by
  unfold Zqg;rw[Ztm];by_cases h:i=0
  . simp[h]
  . rw[if_neg h];simp only[Option.any_some,Bool.not_eq_true'];exact⟨λh2=>⟨by omega,h2⟩,λh2=>h2.2⟩
theorem Zgv{l:List Wt}{i:Nat}(h:i<l.length):Zct (Zqg l i) (l.drop i)=if Z2u (l.getD i wD_V)≠0 then Z2u (l.getD i wD_V)
    else if 0<(i:Int)/\0<=cmpP (ky (l.getD (i - 1) wD_V)) (ky (l.getD i wD_V))then 4 else Zct (Zqg l (i+1)) (l.drop (i+1)):=by
  rw[Z12b l i h,Zct];simp only[Zu0];rfl
theorem Zqh(w:World)(v:Value)(l:List Wt)(hv:Z1w w v l)(hs:Z1n l)(hl:l.length<1000000000):Calls Tryz.prog 55 #[sc1 v] w λe w'=>e=.returned (.int .i64 (Zj l))/\Mod [] w w':=by
  refine Z1 (Z3 (J:=[.v v,.r (l.map Za)]) sxE_ok Tryz.func55 Zed rfl rfl (Rel.start2 (by simp[Ent.holds,Ent.wr,hv,X.ev])) rfl rfl ?_) rfl;simp only[Tree.goal,X.P,X.ev,SV.ev,CV.ev,Sc.ev,qz,QA,QB,QC,QD,QE,QF,QG,QH,QI,QJ,QK,QL,QM,Nat.reduceAdd,qy3,qy4,Z1k,Z1r,Z33];refine⟨λh w' hr=>⟨by rw[Zj,if_pos h],hr.mod⟩,λh=>?_⟩;rw[Zj,if_neg h];refine⟨λvs=>∃(i:Nat) (x:V),vs=[x,.i i]/\i<=l.length/\Zct (Zqg l i) (l.drop i)=Zct none l,λvs=>l.length - (vs.getD 1 (.i 0)).toI.toNat,⟨0,_,rfl,by omega,rfl⟩,?_⟩;rintro _ - ⟨i,x,rfl,hi,hg⟩;simp only[Tree.goal,X.P,X.ev,SV.ev,CV.ev,Sc.ev,qz,QA,QB,QC,QD,QE,QF,QG,QH,QI,QJ,QK,QL,QM,Nat.reduceAdd,qy3,qy4,Z1k,Z1r,Z33];have hi1:((i:Int) - 1).toNat=i - 1:=by omega
  try rw[hi1]
  refine⟨λh1=>⟨by omega,λb=>?_⟩,λh1 w' hr=>⟨?_,hr.mod⟩⟩
  . rw[Zgv (by omega)]at hg;refine⟨[.i (Z2u (l.getD i wD_V))],rfl,λ_ w' _=>Z12p w' _ (Z6w hs i),?_⟩;simp only[Tree.goal,X.P,X.ev,SV.ev,CV.ev,Sc.ev,qz,QA,QB,QC,QD,QE,QF,QG,QH,QI,QJ,QK,QL,QM,Nat.reduceAdd,qy3,qy4,Z1k,Z1r,Z33];try rw[hi1]
    refine⟨λh2 w' hr=>⟨?_,hr.mod⟩,λh2=>⟨by omega,by omega,by omega,by omega,?_⟩⟩
    . rw[if_pos h2]at hg;rw[<- hg]
    . rw[if_neg h2]at hg;refine⟨[.i (cmpP (ky (l.getD (i - 1) wD_V)) (ky (l.getD i wD_V)))],rfl,λ_ w' _=>Zm9 w' (l.getD (i - 1) wD_V) (l.getD i wD_V),?_⟩;simp only[Tree.goal,X.P,X.ev,SV.ev,CV.ev,Sc.ev,qz,QA,QB,QC,QD,QE,QF,QG,QH,QI,QJ,QK,QL,QM,Nat.reduceAdd];refine⟨λh6 w' hr=>⟨?_,hr.mod⟩,λh6=>⟨by omega,by omega,⟨i+1,x,rfl,by omega,?_⟩,by omega⟩⟩
      . rw[if_pos h6]at hg;rw[<- hg]
      . rw[if_neg h6]at hg;exact hg
  . have:i=l.length:=by omega
    subst this;rw[List.drop_length]at hg;rw[<- hg];rfl
theorem Zan:∀(l:List Wt) (p:Option Ky),Zct p l=0↔(∀k∈l,Z2u k=0)/\Zak l/\∀t,p=some t->∀k∈l,ltP t (ky k)=true
  | [],p=>by simp[Zct,Zak]
  | k::l,p=>by
    rw[Zct];constructor
    . intro h;split at h
      . exact absurd h (by assumption)
      rename_i h1;split at h
      . exact absurd h (by decide)
      rename_i h5;obtain⟨i1,i2,i3⟩:=(Zan l (some (ky k))).1 h;refine⟨λx hx=>?_,List.pairwise_cons.2 ⟨λx hx=>i3 _ rfl x hx,i2⟩,λt ht x hx=>?_⟩
      . rcases List.mem_cons.1 hx with rfl|hx
        . exact qy9.1 h1
        . exact i1 x hx
      . subst ht;have h6:ltP t (ky k)=true:=by simpa using h5
        rcases List.mem_cons.1 hx with rfl|hx
        . exact h6
        . exact Z63 h6 (i3 _ rfl x hx)
    . rintro⟨i1,i2,i3⟩;obtain⟨j1,j2⟩:=List.pairwise_cons.1 i2;rw[if_neg (by simpa using i1 k (qy8 ..)),if_neg]
      . exact(Zan l (some (ky k))).2 ⟨λx hx=>i1 x (qy10 _ hx),j2,λt ht x hx=>by cases ht;exact j1 x hx⟩
      . cases p with
        | none=>simp
        | some t=>simpa using i3 t rfl k (qy8 ..)
theorem Z1e{l:List Wt}:Zj l=0↔l.length<=20/\(∀k∈l,Z2u k=0)/\Zak l:=by
  unfold Zj;constructor
  . intro h;split at h
    . exact absurd h (by decide)
    . obtain⟨a,b,-⟩:=(Zan l none).1 h;exact⟨by omega,a,b⟩
  . rintro⟨a,b,c⟩;rw[if_neg (by omega)];exact(Zan l none).2 ⟨b,c,λt ht=>by cases ht⟩
theorem Zu1{v:Value}(hn:(match v with | .slice none _ _=>true|_=>false)=true){w:World}{ks:List Kd}{rows:List (List Value)}(h:reads w v ks rows):rows=[]:=by obtain⟨_,a,cap,rfl,_,h2⟩:=h;refine Classical.byContradiction λhne=>?_;obtain⟨ad,rfl,_⟩:=h2 hne;simp at hn
theorem Z4b(w:World)(v:Value)(l:List Wt)(hv:Z1w w v l)(hl:l.length<1000000000):Calls Tryz.prog 149 #[sc1 v] w λe w'=>∃v',e=.returned (sc1 v')/\Zes w' v' l/\(∀k,Z2 v' k->w.heap.size<=k)/\Mod [] w w':=by
  refine Z1 (Z3 (J:=[.v v,.r (l.map Za)]) sxE_ok Tryz.func149 Z2q rfl rfl (Rel.start2 (by simp[Ent.holds,Ent.wr,hv,X.ev])) rfl rfl ?_) rfl;simp only[Tree.goal,X.P,X.ev,SV.ev,CV.ev,Sc.ev,qz,QA,QB,QC,QD,QE,QF,QG,QH,QI,QJ,QK,QL,QM,Nat.reduceAdd,qy3,List.nil_append];refine⟨λh w' hr=>?_,λh v1=>⟨by simp only[Int.natCast_zero];omega,λv2 w' hr=>?_⟩⟩
  . have hn:l=[]:=List.map_eq_nil_iff.1 (Zu1 h hv);subst hn;exact⟨_,rfl,hr.at_ 0 rfl,hr.fresh 0 rfl,hr.mod⟩
  . exact⟨v2,rfl,hr.at_ 0 rfl,hr.fresh 0 rfl,hr.mod⟩
theorem Z10j(w:World)(s v:Value)(l:List Wt)(x:Wt)(i:Nat)(hs:Zes w s l)(hv:Zes w v [x])(hne:∀k,Z2 s k->Z2 v k->False)(hi:i<=l.length)(hl:l.length<1000000) : Calls Tryz.prog 197 #[sc1 s,.int .i64 i,sc1 v] w λe w'=>∃v',e=.returned (sc1 v')/\Zes w' v' (l.take i++[x]++l.drop i)/\(∀k,Z2 v' k->Z2 s k\/w.heap.size<=k)/\Mod s.ownBlock.toList w w':=by rw[hs.reads.sc1,hv.reads.sc1];refine(Ztu w s v i _ _ hs hv hne (by simpa using hi) (by simp;omega)).mono ?_;rintro e w' ⟨v',rfl,g1,g2,g3⟩;refine⟨v',by rw[g1.reads.sc1],?_,g2,Mod.of_grown g3 λk hk=>.inl (Option.mem_toList.2 hk)⟩;rw[Zes,List.map_append,List.map_append,List.map_take,List.map_drop];exact g1
theorem Zdd{J:List V}{g:List Nat}{i:Nat}(hi:i∈g){k:Nat}(h:Z2 (J.getD i (.i 0)).toV k):k∈Zw J g:=List.mem_flatMap.2 ⟨i,hi,by rw[h];simp⟩
def newW(n:Nat)(u:Value):Prop:=∀k,Z2 u k->n<=k
theorem Zik(n:Nat):newW n (.slice none 0 0):=λk hk=>by simp[Z2,Value.ownBlock]at hk
theorem Zc9(w:World):Z1w w (.slice none 0 0) []:=⟨by simp,none,0,rfl,⟨λ_=>rfl,Nat.le_refl _⟩,λh=>absurd rfl h⟩
def Z15b(w w':World)(e:Ending)(r:List Wt)(er:Int):Prop:=∃v',e=.returned (.tuple #[sc1 v',.int .i64 er])/\Z1w w' v' r/\newW w.heap.size v'/\Mod [] w w'
def rawW(l:List Wt)(x:Wt):List Wt×Int :=
  if hasW l (ky x)=true then(l.set (idxW l (ky x)) x,0)
  else if(l.length:Int)=20 then([],2)else(l.take (idxW l (ky x))++[x]++l.drop (idxW l (ky x)),0)
theorem Zde(R:List Wt)(m:Nat)(x:Wt):(R.map Za).set m [.string ⟨x.1.toArray⟩,.string ⟨x.2.1.toArray⟩,.int .i64 x.2.2]=(R.set m x).map Za:=by rw[List.map_set];rfl
theorem Z15c(w:World)(v:Value)(l:List Wt)(x:Wt)(hv:Z1w w v l)(hs:Zak l)(hl:l.length<=20):Calls Tryz.prog 158 #[sc1 v,wV x] w λe w'=>Z15b w w' e (rawW l x).1 (rawW l x).2:=by
  refine Z1 (Z3 (J:=[.v v,.r (l.map Za),.s x.1,.s x.2.1,.i x.2.2]) sxE_ok Tryz.func158 Zhp rfl rfl (Rel.start2 (by simp[Ent.holds,Ent.wr,hv,X.ev])) rfl rfl ?_) rfl;simp only[Tree.goal,X.P,X.ev,SV.ev,CV.ev,Sc.ev,qz,QA,QB,QC,QD,QE,QF,QG,QH,QI,QJ,QK,QL,QM,Nat.reduceAdd,qy3,qy4,Z1k,Z1r,Z33];intro b1 w1 hr;refine(Z4b w1 v l (by(first|exact hr.at_ 0 rfl|exact hr.at_ 1 rfl|exact hr.at_ 2 rfl|exact hr.at_ 3 rfl|exact hr.at_ 4 rfl|exact hr.at_ 5 rfl|exact hr.at_ 6 rfl|exact hr.at_ 7 rfl|exact hr.at_ 8 rfl)) (by omega)).mono ?_;rintro e w2 ⟨u,rfl,a1,f1,m1⟩;refine⟨[.v u,.r (l.map Za)],rfl,rfl,m1,qy5 _,qy2.2 ⟨⟨a1,λk hk=>.inl (f1 k hk)⟩,qy5 _⟩,Z5,?_⟩;clear hr a1 f1 m1;simp only[Tree.goal,X.P,X.ev,SV.ev,CV.ev,Sc.ev,qz,QA,QB,QC,QD,QE,QF,QG,QH,QI,QJ,QK,QL,QM,Nat.reduceAdd,qy3,qy4,Z1k,Z1r,Z33];intro b3;refine⟨λvs=>∃(i j:Nat),vs=[.i i,.i j]/\i<=j/\j<=l.length/\(∀k,k<i->ltP (ky (l.getD k wD_V)) (ky x)=true)/\(∀k,j<=k->k<l.length->ltP (ky (l.getD k wD_V)) (ky x)=false),λvs=>(vs.getD 1 (.i 0)).toI.toNat - (vs.getD 0 (.i 0)).toI.toNat,⟨0,l.length,rfl,by omega,by omega,λk hk=>by omega,λk h1 h2=>by omega⟩,?_⟩;rintro _ - ⟨i,j,rfl,hij,hj,hA,hB⟩;simp only[Tree.goal,X.P,X.ev,SV.ev,CV.ev,Sc.ev,qz,QA,QB,QC,QD,QE,QF,QG,QH,QI,QJ,QK,QL,QM,Nat.reduceAdd,qy3,qy4,Z1k,Z1r,Z33];refine⟨λh1=>?_,λh1=>?_⟩
  . rw[Z173 i j (by omega)];obtain⟨h,hh⟩:∃h,h=(i+j) / 2:=⟨_,rfl⟩
    rw[<- hh];have hh1:i<=h/\h<j:=by omega
    simp only[qy4,Z1k,Z1r,Z33];refine⟨by omega,by omega,by omega,by omega,by omega,by omega,?_⟩;refine⟨[.i (cmpP (ky (l.getD h wD_V)) (ky x))],rfl,λ_ w' _=>Zm9 w' (l.getD h wD_V) x,?_⟩;simp only[Tree.goal,X.P,X.ev,SV.ev,CV.ev,Sc.ev,qz,QA,QB,QC,QD,QE,QF,QG,QH,QI,QJ,QK,QL,QM,Nat.reduceAdd,qy3,qy4,Z1k,Z1r,Z33];rw[Ztk];refine⟨λh2=>⟨by omega,by omega,⟨h+1,j,rfl,by omega,hj,λk hk=>?_,hB⟩,by omega⟩,λh2=>⟨⟨i,h,rfl,by omega,by omega,hA,λk hk1 hk2=>?_⟩,by omega⟩⟩
    . by_cases hkh:k=h
      . rw[hkh];exact h2
      . exact Z63 (Zo5 hs (i:=k) (j:=h) (by omega) (by omega)) h2
    . have h3:ltP (ky (l.getD h wD_V)) (ky x)=false:=by simpa using h2
      by_cases hkh:k=h
      . rw[hkh];exact h3
      . cases h4:ltP (ky (l.getD k wD_V)) (ky x)with
        | false=>rfl
        | true =>
          have:=Z63 (Zo5 hs (i:=h) (j:=k) (by omega) hk2) h4;rw[h3]at this;cases this
  . have hie:i=j:=by omega
    subst hie;have e:=Ztn (i:=i) hj hA hB;refine⟨by omega,by omega,λh2=>?_,λh2=>?_⟩
    . refine⟨[.i (cmpP (ky (l.getD i wD_V)) (ky x))],rfl,λ_ w' _=>Zm9 w' (l.getD i wD_V) x,?_⟩;simp only[Tree.goal,X.P,X.ev,SV.ev,CV.ev,Sc.ev,qz,QA,QB,QC,QD,QE,QF,QG,QH,QI,QJ,QK,QL,QM,Nat.reduceAdd,qy3,qy4,Z1k,Z1r,Z33];rw[Ztl];refine⟨λh3=>⟨by omega,λw3 hr=>?_⟩,λh3=>⟨λh4 w3 hr=>?_,λh4 u2 w3 hr=>?_⟩⟩
      . have hh:hasW l (ky x)=true:=by rw[hasW,<- e];exact decide_eq_true ⟨by omega,h3⟩
        rw[rawW,if_pos hh,<- e];refine⟨u,rfl,?_,hr.fresh 1 rfl,hr.mod⟩;have h0:=(hr.at_ 1 rfl).reads;rw[Z1w,<- Zde];exact h0
      . have hh:¬hasW l (ky x)=true:=by rw[hasW,<- e,decide_eq_true_eq];exact λh=>h3 h.2
        rw[rawW,if_neg hh,if_pos h4];exact⟨_,rfl,Zc9 _,Zik _,hr.mod⟩
      . have hh:¬hasW l (ky x)=true:=by rw[hasW,<- e,decide_eq_true_eq];exact λh=>h3 h.2
        rw[rawW,if_neg hh,if_neg h4,<- e];refine(Z10j w3 u u2 l x i (by(first|exact hr.at_ 0 rfl|exact hr.at_ 1 rfl|exact hr.at_ 2 rfl|exact hr.at_ 3 rfl|exact hr.at_ 4 rfl|exact hr.at_ 5 rfl|exact hr.at_ 6 rfl|exact hr.at_ 7 rfl|exact hr.at_ 8 rfl)) (by(first|exact hr.at_ 0 rfl|exact hr.at_ 1 rfl|exact hr.at_ 2 rfl|exact hr.at_ 3 rfl|exact hr.at_ 4 rfl|exact hr.at_ 5 rfl|exact hr.at_ 6 rfl|exact hr.at_ 7 rfl|exact hr.at_ 8 rfl)) (λk h5 h6=>hr.sep.disj (i:=2) (j:=0) rfl rfl (by omega) (.inl rfl) (k:=k) h5 h6) (by omega) (by omega)).mono ?_;rintro e w4 ⟨v',rfl,g1,g2,g3⟩;refine⟨[.v v',.r ((l.take i++[x]++l.drop i).map Za)],rfl,rfl,g3.mono λk hk=>.inl (by unfold Zo;exact List.mem_append_right _ (Zdd (i:=7) (by simp) (Option.mem_toList.1 hk))),qy5 _,qy2.2 ⟨⟨g1,λk hk=>?_⟩,qy5 _⟩,Z5,?_⟩;(· rcases g2 k hk with h5|h5;(· exact .inr (.inr (Zdd (i:=7) (by simp) h5)));(· exact .inl h5));(· intro w5 hr5;exact⟨v',rfl,(hr5.at_ 0 rfl).reads,hr5.fresh 0 rfl,hr5.mod⟩)
    . have hh:¬hasW l (ky x)=true:=by rw[hasW,<- e,decide_eq_true_eq];exact λh=>h2 (by omega)
      refine⟨λh4 w3 hr=>?_,λh4 u2 w3 hr=>?_⟩
      . rw[rawW,if_neg hh,if_pos h4];exact⟨_,rfl,Zc9 _,Zik _,hr.mod⟩
      . rw[rawW,if_neg hh,if_neg h4,<- e];refine(Z10j w3 u u2 l x i (by(first|exact hr.at_ 0 rfl|exact hr.at_ 1 rfl|exact hr.at_ 2 rfl|exact hr.at_ 3 rfl|exact hr.at_ 4 rfl|exact hr.at_ 5 rfl|exact hr.at_ 6 rfl|exact hr.at_ 7 rfl|exact hr.at_ 8 rfl)) (by(first|exact hr.at_ 0 rfl|exact hr.at_ 1 rfl|exact hr.at_ 2 rfl|exact hr.at_ 3 rfl|exact hr.at_ 4 rfl|exact hr.at_ 5 rfl|exact hr.at_ 6 rfl|exact hr.at_ 7 rfl|exact hr.at_ 8 rfl)) (λk h5 h6=>hr.sep.disj (i:=2) (j:=0) rfl rfl (by omega) (.inl rfl) (k:=k) h5 h6) (by omega) (by omega)).mono ?_;rintro e w4 ⟨v',rfl,g1,g2,g3⟩;refine⟨[.v v',.r ((l.take i++[x]++l.drop i).map Za)],rfl,rfl,g3.mono λk hk=>.inl (by unfold Zo;exact List.mem_append_right _ (Zdd (i:=7) (by simp) (Option.mem_toList.1 hk))),qy5 _,qy2.2 ⟨⟨g1,λk hk=>?_⟩,qy5 _⟩,Z5,?_⟩;(· rcases g2 k hk with h5|h5;(· exact .inr (.inr (Zdd (i:=7) (by simp) h5)));(· exact .inl h5));(· intro w5 hr5;exact⟨v',rfl,(hr5.at_ 0 rfl).reads,hr5.fresh 0 rfl,hr5.mod⟩)
theorem Z65(p:Wt->Bool)(l:List Wt)(i:Nat)(h:i<l.length):(l.take (i+1)).filter p=(l.take i).filter p++(if p (l.getD i wD_V)=true then[l.getD i wD_V]else[]):=by
  rw[Zic l i h,List.filter_append];generalize l.getD i wD_V=o
  by_cases h1:p o=true<;>simp[h1]
theorem Zao{p:Wt->Bool}{l:List Wt}{i:Nat}(h:∀j,j<i->p (l.getD j wD_V)=true):(l.take i).filter p=l.take i:=by rw[List.filter_eq_self];intro x hx;obtain⟨j,hj,rfl⟩:=List.getElem_of_mem hx;simp only[List.length_take]at hj;have:=h j (by omega);rw[List.getElem_take];rwa [qy1,qy7 (by omega)]at this
theorem Zet{R l:List Wt}{a j:Nat}{p:Wt->Bool}(haj:a<j)(hj:j<l.length)(hR:R.length=l.length)(ht:R.take a=(l.take j).filter p)(hd:R.drop j=l.drop j)(hp:p (l.getD j wD_V)=true) : (R.set a (R.getD j wD_V)).take (a+1)=(l.take (j+1)).filter p:=by
  have hg:R.getD j wD_V=l.getD j wD_V:=by have:=congrArg (λl=>l[0]?) hd;simp only[List.getElem?_drop,Nat.add_zero]at this;rw[qy1,qy1,this]
  rw[Z65 p l j hj,if_pos hp,<- ht,hg,Zic _ _ (by simp;omega)];congr 1
  . rw[List.take_set_of_le (Nat.le_refl _)]
  . rw[qy1,List.getElem?_set_self (by omega)];rfl
theorem Z66{R l:List Wt}{j:Nat}(hd:R.drop j=l.drop j):R.drop (j+1)=l.drop (j+1):=by have:=congrArg (λl=>l.drop 1) hd;simpa[List.drop_drop,Nat.add_comm]using this
theorem Zkf{R l:List Wt}{j:Nat}(hd:R.drop j=l.drop j):R.getD j wD_V=l.getD j wD_V:=by have:=congrArg (λl=>l[0]?) hd;simp only[List.getElem?_drop,Nat.add_zero]at this;rw[qy1,qy1,this]
theorem Zma{l:List Wt}{x:Wt}(hs:Zak l)(h0:(rawW l x).2=0):(rawW l x).1=loW l (ky x)++[x]++hiW l (ky x):=by
  have t1:=Zy7 (n:=ky x) hs;have t2:=Zo6 (n:=ky x) hs;unfold rawW at h0⊢;rcases Zy8 (n:=ky x) hs with⟨h1,k,h2,h3⟩|⟨h1,h2⟩
  . rw[if_pos h1];simp only;have hlt:=(of_decide_eq_true h1).1;rw[List.set_eq_take_append_cons_drop,if_pos hlt,t1];have:l.drop (idxW l (ky x)+1)=hiW l (ky x):=by
      rw[<- List.drop_drop,t2,h2];rfl
    rw[this];simp
  . rw[if_neg (by rw[h1];decide)]at h0⊢;by_cases h4:(l.length:Int)=20
    . rw[if_pos h4]at h0;exact absurd h0 (by decide)
    . rw[if_neg h4];simp only;rw[t1,t2,h2,List.nil_append]
theorem Z12q{l:List Wt}{x:Wt}(h:Zj l=0)(hx:Z2u x=0)(h0:(rawW l x).2=0):Zj (rawW l x).1=0:=by
  obtain⟨a,b,c⟩:=Z1e.1 h;refine Z1e.2 ⟨?_,?_,?_⟩
  . unfold rawW at h0⊢;by_cases h1:hasW l (ky x)=true
    . rw[if_pos h1];simpa using a
    . rw[if_neg h1]at h0⊢;by_cases h4:(l.length:Int)=20
      . rw[if_pos h4]at h0;exact absurd h0 (by decide)
      . rw[if_neg h4];have:=Z12d l (ky x);simp;omega
  . rw[Zma c h0];intro k hk;rcases qy13.1 hk with hk|hk
    . rcases qy13.1 hk with hk|hk
      . exact b k (List.mem_filter.1 hk).1
      . rw[qy12.1 hk];exact hx
    . exact b k (List.mem_filter.1 hk).1
  . rw[Zma c h0];have q1:∀k∈loW l (ky x),ltP (ky k) (ky x)=true:=λk hk=>(List.mem_filter.1 hk).2;have q2:∀k∈hiW l (ky x),ltP (ky x) (ky k)=true:=λk hk=>(List.mem_filter.1 hk).2;refine List.pairwise_append.2 ⟨List.pairwise_append.2 ⟨c.filter _,List.pairwise_singleton _ _,λa ha b hb=>?_⟩,c.filter _,λa ha b hb=>?_⟩
    . rw[qy12.1 hb];exact q1 a ha
    . rcases qy13.1 ha with ha|ha
      . exact Z63 (q1 a ha) (q2 b hb)
      . rw[qy12.1 ha];exact q2 b hb
open Go Go.Sort
section
variable {α:Type} [Inhabited α] {enc:α->List Value} {k:Nat}
theorem Zgw(hk:∀x,(enc x).length=k)(k0:0<k)(ds:List α):(flatK enc k ds.toArray).toList=(ds.map enc).flatten:=by
 apply List.ext_getElem?;intro j;have hlen:((ds.map enc).flatten).length=ds.length*k:=by have:=Zc (rows:=ds.map enc) (n:=k) (λr hr=>by obtain⟨x,-,rfl⟩:=List.mem_map.1 hr;exact hk x);simpa using this
 by_cases hj:j<ds.length*k
 ·have e1:(flatK enc k ds.toArray).toList[j]?=some (enc ds.toArray[j / k]!)[j % k]!:=by
   rw[Array.getElem?_toList,Array.getElem?_eq_getElem (by simpa using hj),<- get_flatK enc k ds.toArray j (by simpa using hj),getElem!_pos _ j (by simpa using hj)]
  have hd:j / k<ds.length:=(Nat.div_lt_iff_lt_mul k0).2 hj;have hm:j % k<k:=Nat.mod_lt _ k0;have e2:=Z8w (rows:=ds.map enc) (n:=k) (λr hr=>by obtain⟨x,-,rfl⟩:=List.mem_map.1 hr;exact hk x) (i:=j / k) (c:=j % k) hm;rw[show j / k*k+j % k=j by rw[Nat.mul_comm];exact Nat.div_add_mod j k]at e2;rw[e1,e2,List.getElem?_map,qy7 hd];simp only[Option.map_some,Option.bind_some];have e3:ds.toArray[j / k]! = ds[j / k]:=by rw[getElem!_pos _ _ (by simpa using hd)];simp
  rw[e3,qy7 (by rw[hk];exact hm)];congr 1
  rw[getElem!_pos _ _ (by rw[hk];exact hm)]
 ·rw[List.getElem?_eq_none (by simp;omega),List.getElem?_eq_none (by omega)]
theorem Zeu{w:World}{g:Nat}{cur:Array Value}{e:TypeId}(hk:∀x,(enc x).length=k)(k0:0<k){ds:List α}(hb:w.heap[g]?=some (.cells cur e (0,0)))(ht:cur.toList.take (ds.length*k)=(ds.map enc).flatten) : HoldsK enc k w g 0 ds.toArray:=by
 intro j hj;have hj':j<ds.length*k:=by simpa using hj
 refine⟨?_,by simp[World.frozen?,hb]⟩;have h1:(cur.toList.take (ds.length*k))[j]?=(flatK enc k ds.toArray).toList[j]?:=by rw[ht,Zgw hk k0]
 rw[List.getElem?_take_of_lt hj']at h1;simp only[World.cell?,hb,Nat.zero_add,Option.isSome_none,Bool.false_eq_true,if_false];have e:(flatK enc k ds.toArray)[j]! = (flatK enc k ds.toArray)[j]:=getElem!_pos _ j hj;rw[<- Array.getElem?_toList,h1,Array.getElem?_toList,Array.getElem?_eq_getElem hj,e];rfl
theorem Zkg{w:World}{g n:Nat}{os:Array Obj}{cur:Array Value}{e:TypeId}{fr:Nat×Nat}(d:Array α)(hb:w.heap[g]?=some (.cells cur e fr)) : (sortWorldK enc k w g 0 n d os).heap[g]?=some (.cells (putCells id 0 (flatK enc k d) cur) e fr):=by have hg:g<w.heap.size:=(Array.getElem?_eq_some_iff.1 hb).1;unfold sortWorldK putRowK;rw[heap_grow_old _ _ (by simpa using hg)];simp[putRow,mapBlock,Sort.ahead,Array.getElem?_modify,hb,onCells]
theorem Zev{w:World}{g n:Nat}{os:Array Obj}(d:Array α):w.grownBy (sortWorldK enc k w g 0 n d os) (some g):=by unfold sortWorldK putRowK;refine⟨rfl,rfl,rfl,by simp,λj hj hne=>?_⟩;rw[heap_grow_old _ _ (by simpa using hj)];have:g≠j:=λe=>hne (by rw[e]);simp[putRow,mapBlock,Sort.ahead,Array.getElem?_modify,this]
theorem Zew{w:World}{base g cap n:Nat}{e:TypeId}{os:Array Obj}{cur:Array Value}{ts:List α}(hk:∀x,(enc x).length=k)(k0:0<k)(hbase:base<=g)(hb:w.heap[g]?=some (.cells cur e (0,0))) (h1:ts.length<=cap) (h2:cap<=maxLen) (h3:cur.size=cap*k) : (sortWorldK enc k w g 0 n ts.toArray os).ownsRow base e k (.slice (some ⟨g,0,none⟩) ts.length cap) ts.length (ts.map enc).flatten:=by
 have hlen:((ts.map enc).flatten).length=ts.length*k:=by have:=Zc (rows:=ts.map enc) (n:=k) (λr hr=>by obtain⟨x,-,rfl⟩:=List.mem_map.1 hr;exact hk x);simpa using this
 have hle:ts.length*k<=cur.size:=by rw[h3];exact Nat.mul_le_mul_right k h1
 refine⟨hlen,.inr ⟨g,cap,_,rfl,hbase,Zkg _ hb,h1,h2,by simp[putCells,h3],?_⟩⟩;apply List.ext_getElem?;intro j;by_cases hj:j<ts.length*k
 ·rw[List.getElem?_take_of_lt hj,<- Zgw hk k0,Array.getElem?_toList,Array.getElem?_toList];have hj2:j<(flatK enc k ts.toArray).size:=by simpa using hj
  have e:(flatK enc k ts.toArray)[j]! = (flatK enc k ts.toArray)[j]:=getElem!_pos _ j hj2;rw[Array.getElem?_eq_getElem (by simp[putCells];omega),Array.getElem?_eq_getElem hj2,<- e];simp only[putCells,Array.getElem_mapIdx,Nat.zero_add,Nat.sub_zero];rw[if_pos ⟨Nat.zero_le _,hj2⟩];rfl
 ·rw[List.getElem?_take_eq_none (by omega),List.getElem?_eq_none (by omega)]
end
end Go.Proofs.Y
namespace Go.Proofs
open Go.Shelf
def Tryz.sortR_ren:Go.Shelf.Ren:=⟨fun|6=>220|15=>247|14=>246|28=>277|29=>278|20=>269|21=>270|22=>271|23=>272|24=>273|25=>274|26=>275|27=>276|46=>290|47=>291|48=>292|49=>293|50=>294|57=>299|n=>n,fun|22=>139|24=>142|25=>226|3=>3|39=>190|0=>0|53=>271|55=>273|4=>4|46=>265|45=>264|50=>103|5=>5|9=>9|66=>283|70=>287|76=>291|77=>292|n=>n,fun|n=>n⟩
theorem Tryz.sortR:Go.Proofs.SlLaysF0.n6 Tryz.prog Tryz.sortR_ren:={
 mixed:=by kernel_rfl
 f6:=⟨Tryz.f220.name,by decide,qF Tryz.func220 (by kernel_rfl)⟩
 f14:=⟨Tryz.f246.name,by decide,qF Tryz.func246 (by kernel_rfl)⟩
 f15:=qF Tryz.func247 (by kernel_rfl)
 f20:=⟨Tryz.f269.name,by decide,qF Tryz.func269 (by kernel_rfl)⟩
 f21:=⟨Tryz.f270.name,by decide,qF Tryz.func270 (by kernel_rfl)⟩
 f22:=⟨Tryz.f271.name,by decide,qF Tryz.func271 (by kernel_rfl)⟩
 f23:=⟨Tryz.f272.name,by decide,qF Tryz.func272 (by kernel_rfl)⟩
 f24:=⟨Tryz.f273.name,by decide,qF Tryz.func273 (by kernel_rfl)⟩
 f25:=⟨Tryz.f274.name,by decide,qF Tryz.func274 (by kernel_rfl)⟩
 f26:=⟨Tryz.f275.name,by decide,qF Tryz.func275 (by kernel_rfl)⟩
 f27:=⟨Tryz.f276.name,by decide,qF Tryz.func276 (by kernel_rfl)⟩
 f28:=qF Tryz.func277 (by kernel_rfl)
 f29:=qF Tryz.func278 (by kernel_rfl)
 f46:=⟨Tryz.f290.name,by decide,qF Tryz.func290 (by kernel_rfl)⟩
 f47:=qF Tryz.func291 (by kernel_rfl)
 f48:=qF Tryz.func292 (by kernel_rfl)
 f49:=⟨Tryz.f293.name,by decide,qF Tryz.func293 (by kernel_rfl)⟩
 f50:=⟨Tryz.f294.name,by decide,qF Tryz.func294 (by kernel_rfl)⟩
 f57:=⟨Tryz.f299.name,by decide,qF Tryz.func299 (by kernel_rfl)⟩
 t0:=Tryz.underlying0
 a0:=Tryz.isAgg0
 z0:=Tryz.sizeOf0
 v0:=Tryz.zeroValue0
 t3:=Tryz.underlying3
 a3:=Tryz.isAgg3
 z3:=Tryz.sizeOf3
 v3:=Tryz.zeroValue3
 t4:=Tryz.underlying4
 a4:=Tryz.isAgg4
 z4:=Tryz.sizeOf4
 v4:=Tryz.zeroValue4
 t5:=Tryz.underlying5
 a5:=Tryz.isAgg5
 z5:=Tryz.sizeOf5
 v5:=Tryz.zeroValue5
 t9:=Tryz.underlying9
 a9:=Tryz.isAgg9
 z9:=Tryz.sizeOf9
 v9:=Tryz.zeroValue9
 t22:=Tryz.underlying139
 a22:=Tryz.isAgg139
 z22:=Tryz.sizeOf139
 v22:=Tryz.zeroValue139
 t25:=Tryz.underlying226
 a25:=Tryz.isAgg226
 z25:=Tryz.sizeOf226
 v25:=Tryz.zeroValue226
 t39:=Tryz.underlying190
 a39:=Tryz.isAgg190
 z39:=Tryz.sizeOf190
 v39:=Tryz.zeroValue190
 t45:=Tryz.underlying264
 a45:=Tryz.isAgg264
 z45:=Tryz.sizeOf264
 v45:=Tryz.zeroValue264
 t46:=Tryz.underlying265
 a46:=Tryz.isAgg265
 z46:=Tryz.sizeOf265
 v46:=Tryz.zeroValue265
 t50:=Tryz.underlying103
 a50:=Tryz.isAgg103
 z50:=Tryz.sizeOf103
 v50:=Tryz.zeroValue103
 t53:=Tryz.underlying271
 a53:=Tryz.isAgg271
 z53:=Tryz.sizeOf271
 v53:=Tryz.zeroValue271
 t55:=Tryz.underlying273
 a55:=Tryz.isAgg273
 z55:=Tryz.sizeOf273
 v55:=Tryz.zeroValue273
 t66:=Tryz.underlying283
 a66:=Tryz.isAgg283
 z66:=Tryz.sizeOf283
 v66:=Tryz.zeroValue283
 t70:=Tryz.underlying287
 a70:=Tryz.isAgg287
 z70:=Tryz.sizeOf287
 v70:=Tryz.zeroValue287
 t76:=Tryz.underlying291
 a76:=Tryz.isAgg291
 z76:=Tryz.sizeOf291
 v76:=Tryz.zeroValue291
 t77:=Tryz.underlying292
 a77:=Tryz.isAgg292
 z77:=Tryz.sizeOf292
 v77:=Tryz.zeroValue292 }
end Go.Proofs
namespace Go.Proofs.Y
open Go Go.Sx Go.RowKit Go.Shelf Go.Lib Go.Sort
theorem lawS:Maps.Keyed Tryz.prog 9:=Maps.string_keyed Tryz.underlying9
theorem Z177(w:World):(zeroValue 3).run Tryz.prog w=.ok (.int .i64 0) w:=by kernel_rfl
def Z8u(n:List UInt8)(l:List Wt)(D:DataW Unit):Prop :=
  Maps.IsMap D/\(∀c,Maps.has D (.string c)=(bst n c none l).isSome)/\∀c q,bst n c none l=some q->∀z,D.atKey (.string c) z=.lit (.int .i64 q)
theorem Zqi(n:List UInt8):Z8u n [] (.map []):=⟨Maps.isMap_empty,λc=>rfl,λc q h=>by cases h⟩
theorem Zmb{n:List UInt8}{l:List Wt}{D:DataW Unit}{x:Wt}(h:Z8u n l D)(hf:¬forW n x=true):Z8u n (l++[x]) D:=by
  have e:∀c,bst n c none (l++[x])=bst n c none l:=λc=>by rw[Zal,if_neg (λh=>hf h.1)]
  exact⟨h.1,λc=>by rw[e];exact h.2.1 c,λc q hq=>by rw[e]at hq;exact h.2.2 c q hq⟩
theorem Zu2{n:List UInt8}{l:List Wt}{D:DataW Unit}(h:Z8u n l D){c:List UInt8}{q:Int}(hat:D.atKey (.string c) (.lit (.int .i64 0))=.lit (.int .i64 q)):q=(bst n c none l).getD 0:=by
  cases hb:bst n c none l with
  | none =>
    have:=h.2.1 c;rw[hb]at this;rw[Maps.atKey_of_not_has this]at hat;simp only[DataW.lit.injEq,Lit.int.injEq,true_and]at hat;rw[<- hat];rfl
  | some q' =>
    rw[h.2.2 c q' hb]at hat;simp only[DataW.lit.injEq,Lit.int.injEq,true_and]at hat;rw[<- hat];rfl
theorem Zqj{n:List UInt8}{l:List Wt}{D:DataW Unit}{x:Wt}{q:Int}(h:Z8u n l D)(hf:forW n x=true)(hq:q=max ((bst n x.1 none l).getD 0) x.2.2):Z8u n (l++[x]) (D.put (.string x.1) (.lit (.int .i64 q))):=by
  have e0:bst n x.1 none (l++[x])=some q:=by rw[Zal,if_pos ⟨hf,rfl⟩,hq]
  have e1:∀c,c≠x.1->bst n c none (l++[x])=bst n c none l:=λc hc=>by rw[Zal,if_neg (λh=>hc h.2.symm)]
  refine⟨h.1.put _ _,λc=>?_,λc q' hq' z=>?_⟩
  . by_cases hc:c=x.1
    . rw[hc,e0];exact Maps.has_put_same h.1 (show WideAt.IsKeyLit (.string x.1) from trivial) _
    . rw[e1 c hc,Maps.has_put_other (by simpa using hc)];exact h.2.1 c
  . by_cases hc:c=x.1
    . rw[hc,e0]at hq';cases hq';rw[hc];exact Maps.atKey_put_same h.1 (show WideAt.IsKeyLit (.string x.1) from trivial) _ _
    . rw[e1 c hc]at hq';rw[Maps.atKey_put_other (by simpa using hc)];exact h.2.2 c q' hq' z
theorem Z12r{w:World}{a:Addr}{u:Value}(h:w.cell? a=some u):a.block<w.heap.size:=by
  refine Classical.byContradiction λhn=>?_;have:w.heap[a.block]?=none:=by simp;omega
  simp[World.cell?,this]at h
theorem Zbo{w w':World}{a:Addr}{u:Value}(h:w.cell? a=some u)(hb:Below w.heap.size w w'):w'.cell? a=some u:=by rw[<- h];exact World.cell?_of_block (hb.block _ (Z12r h))
theorem Zqk{w:World}{ad:Addr}{cap:Nat}{l:List Wt}(hv:Z1w w (.slice (some ad) l.length cap) l){k:Nat}(hk:k<l.length) : w.cell? (ad.add (k*3))=some (.string ⟨(l.getD k wD_V).1.toArray⟩)/\w.cell? ((ad.add (k*3)).add 1)=some (.string ⟨(l.getD k wD_V).2.1.toArray⟩)/\w.cell? ((ad.add (k*3)).add 2)=some (.int .i64 (l.getD k wD_V).2.2):=by
  have hr:(l.map Za).getD k []=Za (l.getD k wD_V):=by rw[qy1,qy1,List.getElem?_map,qy7 hk];rfl
  have key:∀c,c<3->w.cell? ((ad.add (k*3)).add c)=some ((Za (l.getD k wD_V)).getD c undef):=λc hc=>by obtain⟨ad',cap',e,h,-⟩:=hv.get (i:=k) (c:=c) (by rw[qy3];exact hk) hc;simp only[Value.slice.injEq,Option.some.injEq]at e;obtain⟨rfl,-,rfl⟩:=e;rw[hr]at h;rw[Addr.add_add];exact h
  refine⟨?_,key 1 (by decide),key 2 (by decide)⟩;have:=key 0 (by decide);rwa [Addr.add_zero']at this
theorem Zkh{w w':World}(h:Mod [] w w'):w.grownBy w' none:=⟨h.os,h.tape,h.output,h.size,λk hk _=>h.block k hk (by simp)⟩
theorem Zex(w:World)(o:Obj):(w.alloc o).heap[w.heap.size]?=some o:=by show(w.heap.push o)[w.heap.size]?=some o;simp
theorem Zil{w:World}{b:Nat}{cs:Array Value}{t:TypeId}(h:w.heap[b]?=some (.cells cs t (0,0)))(j:Nat):w.cell? ⟨b,j,none⟩=cs[j]?:=by simp[World.cell?,h]
theorem Zyk{x:Int}(h1:-9223372036854775808<=x)(h2:x<=9223372036854775807):(Lit.int .i64 x).wf=true:=WalkArith.wf_i64 (by omega)
theorem Z15d{c y:Int}(hc:(Lit.int .i64 c).wf=true)(h1:0<=y)(h2:y<=1):(Lit.int .i64 (max c y)).wf=true:=by simp[Lit.wf,IntKind.min,IntKind.max,IntKind.signed,IntKind.bits]at hc;exact Zyk (by omega) (by omega)
theorem Z12s:(Tryz.prog.info? 142).map (λi=>(i.zero,i.size,i.bytes))=some (some (.agg #[.string ⟨#[]⟩,.int .i64 0]),2,24):=by kernel_rfl
theorem Zu3(w:World)(x y:Value)(t:TypeId):∀j u,[x,y][j]?=some u->(w.alloc (.cells #[x,y] t)).cell? ((⟨w.heap.size,0,none⟩:Addr).add j)=some u:=by
  intro j u hj;rw[Addr.add_lit,Zil (Zex w _)]
  match j,hj with
  | 0,hj=>exact hj
  | 1,hj=>exact hj
def Zu4(D:DataW Unit)(left:Lit->Bool)(ss:List Rd):Prop:=Collected D left (ss.map (·.1))/\∀x∈ss,∀z,D.atKey (.string x.1) z=.lit (.int .i64 x.2)
theorem Zmc(D:DataW Unit):Zu4 D (Maps.has D) []:=⟨Collected.start D,by simp⟩
theorem Zql{D:DataW Unit}{left:Lit->Bool}{ss:List Rd}(h:Zu4 D left ss){c:List UInt8}{q:Int}(hlk:left (.string c)=true)(hat:∀z,D.atKey (.string c) z=.lit (.int .i64 q)):Zu4 D (λz=>left z && !z.sameKey (.string c)) (ss++[(c,q)]):=by
  refine⟨by rw[List.map_append];exact h.1.step hlk hat,λx hx=>?_⟩;rcases qy13.1 hx with hx|hx
  . exact h.2 x hx
  . rw[qy12.1 hx];exact hat
theorem Zki{n:List UInt8}{l:List Wt}{D:DataW Unit}{left:Lit->Bool}{ss ts:List Rd}(hD:Z8u n l D)(h:Zu4 D left ss)(hl:∀k,left k=false)(hp:ts.Perm ss)(hs:∀i j,(hij:i<j)->(hj:j<ts.length)->Ze ts[j].1 (ts[i]'(Nat.lt_trans hij hj)).1=false):okY n ts l:=by
  have hnd:(ts.map (·.1)).Nodup:=(hp.map _).nodup_iff.2 h.1.1;refine⟨?_,λc q=>?_⟩
  . rw[Ztq,List.pairwise_iff_getElem];intro i j hi hj hij;rcases Z7w.1 (hs i j hij hj)with h1|h1
    . exact h1
    . rw[List.nodup_iff_pairwise_ne,List.pairwise_iff_getElem]at hnd;have:=hnd i j (by simpa using hi) (by simpa using hj) hij;simp only[List.getElem_map]at this;exact absurd h1 this
  . rw[hp.mem_iff];constructor
    . intro hm;have h1:=h.2 _ hm;have h2:=(h.1.2 c).1 (List.mem_map.2 ⟨_,hm,rfl⟩);have h3:=hD.2.1 c;rw[h2.1]at h3;cases hb:bst n c none l with
      | none=>rw[hb]at h3;cases h3
      | some q' =>
        have h4:=hD.2.2 c q' hb .nil;rw[h1]at h4;simp only[DataW.lit.injEq,Lit.int.injEq,true_and]at h4;rw[h4]
    . intro hb;have h3:=hD.2.1 c;rw[hb]at h3;obtain⟨x,hx,hxc⟩:=List.mem_map.1 ((h.1.2 c).2 ⟨h3,hl _⟩);have h1:=h.2 x hx .nil;have h4:=hD.2.2 c q hb .nil;rw[hxc,h4]at h1;simp only[DataW.lit.injEq,Lit.int.injEq,true_and]at h1;rw[show(c,q)=x from Prod.ext hxc.symm h1];exact hx
def cmpY(x y:Rd):Int:=Z34 x.1 y.1
theorem Zap(x y:Rd):ltOf cmpY x y=Ze x.1 y.1:=by
  unfold ltOf cmpY;have:=@Zaj x.1 y.1;cases h:Ze x.1 y.1 with
  | true=>exact decide_eq_true (this.2 h)
  | false=>exact decide_eq_false (λh2=>by rw[this.1 h2]at h;cases h)
theorem swoY:Sort.SWO (ltOf cmpY) where
  irrefl x:=by rw[Zap];exact Z1j _
  trans x y z h1 h2:=by rw[Zap]at *;exact Z1c h1 h2
  ntrans x y z h1 h2:=by
    rw[Zap]at *;rcases Z7w.1 h1 with h1|h1<;>rcases Z7w.1 h2 with h2|h2
    . exact Z4a (Z1c h2 h1)
    . rw[h2];exact Z4a h1
    . rw[<- h1];exact Z4a h2
    . rw[h2,h1];exact Z1j _
theorem Z178(x y:Rd)(W:World):Calls Tryz.prog 221 #[.agg (encY x).toArray,.agg (encY y).toArray] W λe w'=>e=.returned (.int .i64 (cmpY x y))/\∃q os',w'=grow (W.drewN q) os':=by
  have hcon:∀W',Calls Tryz.prog 127 #[.string ⟨x.1.toArray⟩,.string ⟨y.1.toArray⟩] W' λe w'=>e=.returned (.int .i64 (cmpY x y))/\w'=W':=λW'=>by refine(Any.strings_Compare Tryz.lays106 ⟨x.1.toArray⟩ ⟨y.1.toArray⟩ W').mono ?_;rintro e w' ⟨rfl,rfl⟩;rw[Zer];exact⟨rfl,rfl⟩
  simp only[encY];generalize cmpY x y=r at hcon⊢
  go_enter Tryz.func221,Tryz.ntmps221
  go_wp2_with (go_at_call 127;refine(hcon _).mono ?_;rintro e w' ⟨rfl,rfl⟩)
  go_ret
  exact⟨rfl,0,_,by rw[alloc_eq_grow,alloc_eq_grow,grow_grow];rfl⟩
theorem Zyl(x:Rd):∀v∈encY x,v.oneCell'=true:=by intro v hv;simp only[encY,List.mem_cons,List.not_mem_nil,or_false]at hv;rcases hv with rfl|rfl<;>rfl
set_option maxRecDepth 100000 in
theorem Z12t(w:World)(f:Value):Calls Tryz.prog 269 #[.slice none 0 0,.int .i64 0,.int .i64 0,f] w λe w'=>e=.returned (.tuple #[])/\w'=w:=by
  go_enter Tryz.func269,Tryz.ntmps269
  go_wp2
  refine wp_loop_rounds 1 ?_;rw[rounds_succ];go_wp2
  go_end0
  exact⟨rfl,rfl⟩
set_option maxRecDepth 100000 in
theorem Z12u(w:World)(f:Value)(n:Int):Calls Tryz.prog 246 #[.slice none 0 0,.int .i64 0,.int .i64 0,.int .i64 n,f] w λe w'=>e=.returned (.tuple #[])/\w'=w:=by
  go_enter Tryz.func246,Tryz.ntmps246
  go_wp2
  refine wp_loop_rounds 1 ?_;rw[rounds_succ];go_wp2_with (go_at_call 269;refine(Z12t _ _).mono ?_;rintro e w' ⟨rfl,rfl⟩)
  (try simp only[Exit.inBlock,Exit.then])
  refine bodyPost_ret (results_none rfl _ _ _) rfl ?_;exact⟨rfl,rfl⟩
set_option maxRecDepth 100000 in
theorem Zym(w:World):Calls Tryz.prog 220 #[.slice none 0 0,.func (.func 221) #[] #[]] w λe w'=>e=.returned (.tuple #[])/\Mod [] w w':=by
  have hl:∀W,Calls Tryz.prog 247 #[.int .u64 0] W λe w'=>e=.returned (.int .i64 (Lib.bitLen 0:Nat))/\w'=W:=λW =>
    Any.bits_Len (SlLaysF0.n15.bits (P:=Tryz.prog) (ρ:=Tryz.sortR_ren) { Tryz.sortR with }) 0 W (by omega) (by omega)
  go_enter Tryz.func220,Tryz.ntmps220
  go_wp2_with (first|(go_at_call 247;refine(hl _).mono ?_;rintro e w' ⟨rfl,rfl⟩)|(go_at_call 246;refine(Z12u _ _ _).mono ?_;rintro e w' ⟨rfl,rfl⟩))
  go_end0
  exact⟨rfl,Mod.refl _ _⟩
theorem size_map{w:World}{P:Program}{k:TypeId}{R:Value->Option (DataW Unit×List MemPlace)}{b n:Nat}{D:DataW Unit}(h:w.ownsMap P k R b n D):Maps.size D<=n:=by obtain⟨es,clock,hb,F,hn,rfl⟩:=h;simpa[Maps.size,length_sorted]using hn
theorem Zyn{w:World}{base e k:Nat}{v:Value}{n:Nat}{xs:List Value}(h:w.ownsRow base e k v n xs):w.ownsRow 0 e k v n xs :=
  ⟨h.1,h.2.imp id λ⟨g,cap,cur,a,b,r⟩=>⟨g,cap,cur,a,Nat.zero_le _,r⟩⟩
theorem Zu5(w:World):Zy9 w (.slice none 0 0) []:=⟨by simp,rfl,.inl ⟨rfl,rfl⟩⟩
theorem Zu6(ts:List Rd):∀r∈ts.map encY,rowOk kY r:=by intro r hr;obtain⟨x,-,rfl⟩:=List.mem_map.1 hr;exact⟨⟨_,rfl⟩,⟨_,rfl⟩,trivial⟩
set_option maxRecDepth 100000 in
theorem Z12v(w:World)(a:Option Addr)(cap:Nat)(l:List Wt)(n:List UInt8)(hv:Z1w w (.slice a l.length cap) l)(hs:Z1n l)(hn:n.length<1000000000)(hl:l.length<1000000)(hq:∀x∈l,0<=x.2.2/\x.2.2<=1) : Calls Tryz.prog 183 #[.slice a l.length cap,.string ⟨n.toArray⟩] w λe w'=>∃v' rs,e=.returned v'/\Zy9 w' v' rs/\newW w.heap.size v'/\okY n rs l/\Mod [] w w':=by
  have hv0:=hv;obtain⟨hrow,a',cap',e1,⟨hc1,hc2⟩,hcells⟩:=hv;simp only[Value.slice.injEq,qy3]at e1;obtain⟨rfl,-,rfl⟩:=e1;have hmm:=@run_makeMap Tryz.prog;go_enter Tryz.func183,Tryz.ntmps183
  go_wp2
  go_loopw [14] (λi wr=>∃(k:Nat) (D:DataW Unit),k<=l.length/\i=.int .i64 k/\wr.ownsMap Tryz.prog 9 (plainElem Tryz.prog 3) w.heap.size k D/\Z8u n (l.take k) D/\Below w.heap.size w wr)
    (λi _=>l.length - (intOf i).toNat)
  case atStart=>exact⟨0,_,Nat.zero_le _,rfl,World.ownsMap_made _ _ _ _,Zqi n,(Below.refl _ _).alloc (Nat.le_refl _) _⟩
  case round =>
    obtain⟨k,D,hk,rfl,hown,hD,hnx⟩:=hrel;by_cases hlt:k<l.length
    . obtain⟨ad,rfl,hcell⟩:=hcells (λe=>by rw[List.map_eq_nil_iff]at e;rw[e]at hlt;exact Nat.not_lt_zero _ hlt);obtain⟨q0,q1,q2⟩:=Zqk hv0 hlt;have h0:=Zbo q0 hnx;have h1:=Zbo q1 hnx;have h2:=Zbo q2 hnx;have hx1:=hs _ (memW l k hlt);have htk:=Zic l k hlt;have hq1:=hq _ (memW l k hlt);generalize l.getD k wD_V=x at h0 h1 h2 hx1 htk hq1
      rw[Addr.add_succ']at h1 h2;clear q0 q1 q2;generalize hA:ad.add (k*3)=A at h0 h1 h2
      have hkey:keyOf Tryz.prog 9 (.string ⟨x.1.toArray⟩)=some (.string x.1):=by have:=WideMaps.keyOf_string_mk Tryz.underlying9 (s:=⟨x.1.toArray⟩) (by have:=hx1.1;simp[ByteArray.size,maxLen];omega);simpa using this
      have hc:=Z11x (wr.alloc (.cells #[.string ⟨x.1.toArray⟩,.string ⟨x.2.1.toArray⟩,.int .i64 x.2.2] 71)) x.2.1 n (by have:=hx1.2;omega) (by omega);go_wp2_with (first
        | (go_at_call 200;refine hc.mono ?_;rintro e w2 ⟨rfl,gm⟩
           have g1:=Zkh gm;have hown2:=(hown.alloc (.cells #[.string ⟨x.1.toArray⟩,.string ⟨x.2.1.toArray⟩,.int .i64 x.2.2] 71)).kept g1 (by simp);have hnx2:=(hnx.alloc hnx.size (.cells #[.string ⟨x.1.toArray⟩,.string ⟨x.2.1.toArray⟩,.int .i64 x.2.2] 71)).grown g1 (by have:=hnx.size;simp;omega) (λj hj=>by cases hj);have hbl:=g1.block wr.heap.size (by simp) (by simp);simp only[Zex]at hbl;have c0:=Zil hbl 0;have c1:=Zil hbl 1;have c2:=Zil hbl 2)
        | (at_lookup;refine wpList_lookup_own_int _ rfl _ _ 224 rfl 9 3 .i64 lawS Tryz.underlying224 Tryz.underlying3 (Z177 _) w.heap.size k _ rfl hown2 _ _ rfl hkey ?_;intro c hat hwc)
        | (at_mapUpdate;refine wpList_mapUpdate_own _ rfl _ _ _ 224 rfl 9 3 lawS Tryz.underlying224 _ w.heap.size k _ rfl hown2 (by unfold maxLen;omega) _ _ _ rfl rfl hkey _ [] (plainElem_int Tryz.underlying3 (Z15d hwc hq1.1 hq1.2)) ?_;intro w3 hown3 hgrow3)
        | go_in)
      . have hf:forW n x=true:=by assumption
        have hg:Z8u n (l.take (k+1)) (D.put (.string x.1) (.lit (.int .i64 (max c x.2.2)))):=by rw[htk];exact Zqj hD hf (by rw[Zu2 hD hat])
        have hb3:=hnx2.grown hgrow3 hnx2.size (λj hj=>by cases hj;exact Nat.le_refl _);go_roundw
        case rel=>exact⟨k+1,_,by omega,by go_num,hown3,hg,hb3⟩
        case measure=>simp[intOf];omega
      . have hf:¬forW n x=true:=by rw[forW];simp_all
        have hg:Z8u n (l.take (k+1)) D:=by rw[htk];exact Zmb hD hf
        go_roundw
        case rel=>exact⟨k+1,_,by omega,by go_num,hown2.mono (by omega),hg,hnx2⟩
        case measure=>simp[intOf];omega
    . have hke:k=l.length:=by omega
      subst hke;rw[List.take_length]at hD;go_wp2_with (first
        | (at_range;refine wpList_range_own _ rfl _ 224 rfl 9 3 lawS Tryz.underlying224 _ w.heap.size l.length _ rfl hown ?_;intro w0 hrg0 hg0 hs0)
        | go_in)
      go_frame
      obtain⟨i0,hi,hz0,hz1,hz2⟩:=info_parts Z12s;have hb0:=hnx.grown hg0 hnx.size (λj hj=>by cases hj);have hr0:w.heap.size<=wr.heap.size:=hnx.size;have hszD:Maps.size D<=l.length:=size_map hown;generalize wr.heap.size=r0 at hrg0 hr0⊢
      clear hg0 hs0 hown hnx;go_loopw [8] (λv wq=>∃(left:Lit->Bool) (cnt:Nat) (ss:List Rd),wq.ranges Tryz.prog 9 (plainElem Tryz.prog 3) w.heap.size r0 l.length D left cnt/\ss.length+cnt<=Maps.size D /\
          wq.ownsRow (w.heap.size+1) 142 2 v ss.length (ss.map encY).flatten/\Zu4 D left ss/\Below w.heap.size w wq)
        (λ_ wq=>wq.rangeLeft w.heap.size r0)
      case atStart=>exact⟨_,_,[],hrg0,by simp,⟨rfl,.inl ⟨rfl,rfl⟩⟩,Zmc D,hb0⟩
      case round =>
        obtain⟨left,cnt,ss,hrg,hcs,hrow,hC,hnq⟩:=hrel;go_wp2_with (first
          | (at_next;refine wpList_next_ranges _ rfl _ rfl 9 lawS (plainElem Tryz.prog 3) Go.Proofs.encStr (Value.int .i64) (λkey kl hk=>by obtain⟨x,hx,_⟩:=Maps.keyOf_str Tryz.underlying9 hk;exact⟨x,hx⟩) (λv y hv=>by obtain⟨c,rfl,_⟩:=plainElem_int_inv Tryz.underlying3 hv;exact⟨c,rfl⟩) w.heap.size r0 l.length _ _ _ rfl hrg ?_ ?_)
          | go_in)
        . intro hc00 hl0;rcases hrow.2 with⟨hnil,hz⟩|⟨g,cap2,cur,hvs,hbase,hb,h1,h2,h3,h4⟩
          . have hss:ss=[]:=List.length_eq_zero_iff.1 hz;subst hss;subst hnil;go_wp2_with (go_at_call 220;refine(Zym _).mono ?_;rintro e w' ⟨rfl,gm⟩)
            go_ret
            refine⟨.slice none 0 0,[],rfl,Zu5 _,Zik _,Zki hD hC hl0 (List.Perm.refl _) (λi j hij hj=>absurd hj (by simp)),?_⟩;exact Mod.of_below (hnq.grown (Zkh gm) hnq.size (λj hj=>by cases hj))
          . subst hvs;have hgl:=(Array.getElem?_eq_some_iff.1 hb).1;have hlen:ss.length<4611686018427387904:=by omega
            have eg:∀args w,(callFunc 221 args).run Tryz.prog w=.ok (.enter 221 args) w:=enters_of Tryz.func221 (by kernel_rfl) rfl;have hc:Calls Tryz.prog 220 #[.slice (some ⟨g,0,none⟩) ss.length cap2,.func (.func 221) #[] #[]] wr _ :=
              AnyQ.slices_SortFunc Tryz.sortR 2 Tryz.isAgg142 Tryz.sizeOf142 encY (λ_=>rfl) Zyl cmpY swoY 221 #[] g 0 cap2 ss.toArray wr eg (λ_ _ _ _ x y=>Z178 x y _) (Zeu (enc:=encY) (k:=2) (ds:=ss) (λ_=>rfl) (by decide) hb h4) hgl hlen
            go_wp2_with (go_at_call 220;refine hc.mono ?_;rintro e w' ⟨rfl,d',nn,os,hp,hso,rfl⟩)
            go_ret
            obtain⟨ts⟩:=d';have hsz:ts.length=ss.length:=hp.1;have hpm:ts.Perm ss:=by
              have:=hp.2.2;simp only[List.size_toArray]at this;rw[<- hsz]at this;have e:ss.take ts.length=ss:=by rw[hsz,List.take_length]
              simpa[e]using this
            refine⟨_,ts,rfl,⟨Zu6 ts,Zyn (base:=w.heap.size+1) ?_⟩,λk hk=>?_,Zki hD hC hl0 hpm (λi j hij hj=>?_),?_⟩
            . have:=Zew (w:=wr) (n:=nn) (os:=os) (enc:=encY) (k:=2) (ts:=ts) (λ_=>rfl) (by decide) hbase hb (by omega) h2 h3;rw[qy3,<- hsz];exact this
            . have:g=k:=Option.some.inj hk;omega
            . have:=hso i j (Nat.zero_le _) hij (by show j<ss.length;omega);rw[Zap,getElem!_pos _ j (by simpa using hj),getElem!_pos _ i (by simp;omega)]at this;exact this
            . exact Mod.of_below (hnq.grown (Zev _) hnq.size (λj hj=>by cases hj;exact Nat.le_of_succ_le hbase))
        . intro x c kl yd yp w2 cnt2 hkey hlk hv hat hrg2 hlt2 hg2 hs2 hen;obtain⟨x',ex,rfl,_⟩:=Maps.keyOf_str Tryz.underlying9 hkey;obtain rfl:x=x':=encStr_inj ex;have hrow2:=hrow.kept hg2 (Or.inr (row_ne_iter hrow hrg).symm);clear hs2;obtain⟨c',ec,e2,hwc⟩:=plainElem_int_inv Tryz.underlying3 hv;obtain rfl:c=c':=by simpa using ec
          obtain rfl:yd=.lit (.int .i64 c):=(Prod.mk.inj e2).1;clear hv ec e2;go_wp2_with (first
            | (at_builtin;refine wpList_append_own _ rfl _ _ 139 rfl (w.heap.size+1) 142 i0 (.agg #[.string ⟨#[]⟩,.int .i64 0]) 2 24 Tryz.underlying139 hi hz0 hz1 hz2 rfl (by decide) _ _ _ rfl (hrow2.alloc _) ⟨w2.heap.size,0,none⟩ 1 1 [Go.Proofs.encStr x,.int .i64 c] rfl rfl (Zu3 _ _ _ _) (by simp[Value.oneCell',Go.Proofs.encStr]) (by unfold maxLen;omega) (by omega) (by have:=hrg2.owns.lt;simp;omega) ?_;intro v' w3 hown' hg3 hnil3;go_frame)
            | go_in)
          have hrg3:=(hrg2.alloc _).kept hg3 (row_ne_low hrow2 (Nat.lt_succ_self _)) (row_ne_iter hrow2 hrg2);have hb3:=((hnq.grown hg2 hnq.size (λj hj=>by cases hj;exact hr0)).alloc (by have:=hnq.size;have:=hg2.size;omega) _).grown hg3 (by have:=hnq.size;have:=hg2.size;simp;omega) (λj hj=>Nat.le_of_succ_le (hrow2.lt j hj).1);go_roundw
          case rel =>
            exact⟨_,cnt2,ss++[(x,c)],hrg3,by simp;omega,by simpa[encY,Go.Proofs.encStr]using hown',Zql hC hlk hat,hb3⟩
          case measure=>rw[hrg3.left_eq,hrg.left_eq];exact hlt2
end Go.Proofs.Y
namespace Go.Proofs.Y
open Go Go.Sx
theorem Z15e{x:Wt}(h:Z2u x=0):cliB x.1=true/\chkT x.2.1 true=0/\0<=x.2.2/\x.2.2<=1:=by
 unfold Z2u at h;split at h
 ·rename_i h1;unfold askE at h;simp only at h;split at h
  ·rename_i h2;split at h
   ·rename_i h3;exact⟨h1,h2,h3⟩
   ·exact absurd h (by decide)
  ·rename_i h2;exact absurd h h2
 ·exact absurd h (by decide)
theorem Zkj{l:List Wt}(h:Zj l=0):∀x∈l,cliB x.1=true/\chkT x.2.1 true=0/\0<=x.2.2/\x.2.2<=1:=λx hx=>Z15e ((Z1e.1 h).2.1 x hx)
theorem c_Of(w:World)(v:Value)(l:List Wt)(n:List UInt8)(hv:Z1w w v l)(hs:Z1n l)(hn:n.length<1000000000)(h:Zj l=0):Calls Tryz.prog 183 #[sc1 v,.string ⟨n.toArray⟩] w λe w'=>∃v',e=.returned (sc1 v')/\Zy9 w' v' (rdOf n l)/\newW w.heap.size v'/\Mod [] w w':=by
 rw[hv.sc1];obtain⟨k1,k2,k3⟩:=Z1e.1 h;have hv0:=hv;obtain⟨-,a,cap,rfl,-,-⟩:=hv;rw[qy3]at hv0⊢;refine(Z12v w a cap l n hv0 hs hn (by omega) λx hx=>(Zkj h x hx).2.2).mono ?_;rintro e w' ⟨v',rs,rfl,g1,g2,g3,g4⟩;have e1:rs=rdOf n l:=by obtain⟨a1,a2⟩:=Ztr (n:=n) (Zgq k3);exact Zgp g3.1 a1 λx=>by rw[show x=(x.1,x.2) from rfl,g3.2,a2]
 subst e1;exact⟨v',by rw[g1.reads.sc1],g1,g2,g4⟩
def wA:List Wt:=[([97,110,110],[35],0),([97,110,110],[97,47,43],1),([98,111,98],[99],0)]
theorem Z12w(w:World):Calls Tryz.prog 113 #[] w λe w'=>∃v',e=.returned (sc1 v')/\Z1w w' v' wA/\newW w.heap.size v'/\Mod [] w w':=by refine Z1 (Z8 (J:=[]) sxE_ok Tryz.func113 Z7f rfl rfl rfl ?_) rfl;simp only[Tree.goal,X.P,X.ev,SV.ev,CV.ev,Sc.ev,qz,QA,QB,QC,QD,QE,QF,QG,QH,QI,QJ,QK,QL,QM,Nat.reduceAdd];intro v w' hr;exact⟨v,rfl,(hr.at_ 0 rfl).reads,hr.fresh 0 rfl,hr.mod⟩
