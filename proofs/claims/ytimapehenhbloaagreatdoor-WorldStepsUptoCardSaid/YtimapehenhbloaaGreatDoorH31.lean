/- By an AI agent. -/
import Derived.Test.YtimapehenhbloaaGreatDoorH30
set_option linter.all false
set_option maxHeartbeats 20000000
set_option maxRecDepth 100000
open Nat renaming reduceAdd→ra
open List renaming length_cons→ϐ,length_nil→ϑ,mem_filter→ϓ,not_mem_nil→ϔ,append_nil→ϕ,mem_cons→ϖ,drop_length→Ϙ,take_length→Ϛ,filter_append→ϣ,length_filter_le→ϥ,length_take→Ϧ,mem_map_of_mem→Ϩ,pairwise_cons→ϩ,ext_getElem→Ϭ,length_set→Ϯ,take_append_drop→ϯ,eq_nil_or_concat→ϰ,concat_eq_append→ϱ,set_append_right→ϲ,mem_append_right→ϳ,mem_append_left→ϸ,flatMap_append→Ϲ,getD_cons_zero→Ϻ,getD_cons_succ→ϻ,flatMap_cons→β,getElem?_map→γ,append_assoc→δ,mem_flatMap→ε,flatMap_nil→ζ,length→η
open Classical renaming byContradiction→ϒ,propDecidable→ϭ
open Go.Proofs.Tryz renaming prog→ϗ
open Go renaming World→ϙ,Value→Ϝ,Calls→Ϟ
open Bool renaming true→Ϡ,false→ϧ,eq_false_iff→ϫ
open Nat renaming add_sub_cancel→Ϣ,le_trans→Ϥ,le_refl→Ϸ
open Option renaming none→Ϫ
namespace Go.Proofs.Y
open Go Go.Sx
abbrev AllX:=List SntX×Ϝ
abbrev alD:AllX:=([],.slice Ϫ 0 0)
def Zt1(t:AllX):List Ϝ:=[sc1 t.2]
abbrev kAl:List Kd:=[.oth]
def allT(t:AllX):List (Ϝ×List Kd×List (List Ϝ)):=(t.2,kSn,t.1.map Zp)::nest [] t.1
def allA(L:List AllX):Asrt:=rdsZ (L.flatMap allT)
def Z1g8{L:List AllX}{w:ϙ}(h:(allA L).holds w){t:AllX}(ht:t∈L):reads w t.2 kSn (t.1.map Zp)/\(Z3 [] t.1).holds w :=
 ⟨h (t.2,kSn,t.1.map Zp) (ε.2 ⟨t,ht,qy8 ..⟩),λx hx=>h x (ε.2 ⟨t,ht,qy10 _ hx⟩)⟩
def Zye(w:ϙ):(allA []).holds w:=λt ht=>by cases ht
def Zl1(k:Nat):¬(allA []).fp k:=λ⟨t,ht,_⟩=>by cases ht
def Z168{L:List AllX}{t:AllX}{w:ϙ}(h:(allA L).holds w)(h1:reads w t.2 kSn (t.1.map Zp))(h2:(Z3 [] t.1).holds w):(allA (L++[t])).holds w:=by
 intro x hx;rw[Ϲ,qy13]at hx;rcases hx with hx|hx
 ·exact h x hx
 ·simp only[β,ζ,ϕ,allT,ϖ]at hx;rcases hx with rfl|hx
  ·exact h1
  ·exact h2 x hx
variable{k:Nat}
def Z169{L:List AllX}{t:AllX}(h:(allA (L++[t])).fp k):(allA L).fp k\/((t.1.map Zp).flatten≠[]/\Z1 t.2 k)\/(Z3 [] t.1).fp k:=by
 obtain⟨x,hx,hk⟩:=h;rw[Ϲ,qy13]at hx;rcases hx with hx|hx
 ·exact .inl ⟨x,hx,hk⟩
 ·simp only[β,ζ,ϕ,allT,ϖ]at hx;rcases hx with rfl|hx
  ·exact .inr (.inl hk)
  ·exact .inr (.inr ⟨x,hx,hk⟩)
def Z1kb{l:List AllX}{i:Nat}(h:i<l.length):(l.map Zt1).getD i []=Zt1 (l.getD i alD):=by rw[qy1,qy1,γ,qy7 h];rfl
def Z1kc{l:List AllX}{i:Nat}(h:i<l.length):l.getD i alD∈l:=by rw[qy1,qy7 h];exact List.getElem_mem h
variable{l:List SesX}
def Z16a{a b:List SntX}(h:(Z3 l (a++b)).fp k):(Z3 l a).fp k\/(Z3 [] b).fp k:=by
 rcases Z7.1 h with h|⟨t,ht,hk⟩
 ·exact .inl (Z7.2 (.inl h))
 ·rcases qy13.1 ht with ht|ht
  ·exact .inl (Z7.2 (.inr ⟨t,ht,hk⟩))
  ·exact .inr (Z7.2 (.inr ⟨t,ht,hk⟩))
end Go.Proofs.Y
namespace Go.Proofs.Y
open Go.Sx
open Go
def Z10n(w:ϙ)(x:Kp)(hs:smW x):Ϟ ϗ 65 #[.string ⟨x.1.toArray⟩,.agg #[.string ⟨x.2.1.toArray⟩,.int .i64 x.2.2]] w λe w'=>e=.returned (.int .i64 (Z4b x))/\Mod [] w w':=by
 have h1:=hs.1;have h2:=hs.2;refine Wp (J:=[.s x.1,.s x.2.1,.i x.2.2]) Z85 ?_;simp only[QR,ra];intro b1;refine⟨[.b (Z9 x.1)],rfl,λ_ w' _=>Z4y w' _ O,?_⟩;simp only[QR,ra];refine⟨λh w' hr=>⟨by rw[Z4b,ϛ h],hr.mod⟩,λh=>?_⟩;have h:=qy9.1 h;refine⟨[.i (chkT x.2.1 Ϡ)],rfl,λ_ w' _=>Z3f w' _ Ϡ O,?_⟩;simp only[QR,ra];have e:Z4b x=askE (x.2.1,x.2.2):=by rw[Z4b,ϝ h]
 refine⟨λh3=>⟨λh4 w' hr=>⟨?_,hr.mod⟩,λh4 w' hr=>⟨?_,hr.mod⟩⟩,λh3 w' hr=>⟨?_,hr.mod⟩⟩
 ·rw[e,askE];rw[ϝ h3,ϛ h4]
 ·rw[e,askE];rw[ϝ h3,ϝ (qy9.1 h4),h3]
 ·rw[e,askE];rw[ϛ h3]
def Zbv(w:ϙ)(a b:Kp)(ha:smW a):Ϟ ϗ 66 #[wV a,wV b] w λe w'=>e=.returned (.bool (ltP (ky a) (ky b)))/\Mod [] w w':=by
 have h1:=ha.1;have h2:=ha.2;refine Wp (J:=[.s a.1,.s a.2.1,.i a.2.2,.s b.1,.s b.2.1,.i b.2.2]) Z82 ?_;simp only[QR,ra];intro b1 b2;refine⟨λh=>?_,λh=>?_⟩
 ·refine⟨[.b (Z5 a.1 b.1)],rfl,λ_ w' _=>Z1q w' _ _ O,?_⟩;simp only[QR,ra];refine λw' hr=>⟨?_,hr.mod⟩
  simp[ltP,ky,h]
 ·have h:=qy9.1 h;refine⟨[.b (Z5 a.2.1 b.2.1)],rfl,λ_ w' _=>Z1q w' _ _ O,?_⟩;simp only[QR,ra];refine λw' hr=>⟨?_,hr.mod⟩
  simp[ltP,ky,h,Zs]
def Zt2(w:ϙ)(v:Ϝ)(l:List Kp)(hv:Z1r w v l)(hs:Z2d l)(hl:l.length<1000000000):Ϟ ϗ 19 #[sc1 v] w λe w'=>e=.returned (.int .i64 (Zl l))/\Mod [] w w':=by
 refine Wr (J:=[.v v,.r (l.map encK)]) Z6c ?_;simp only[QR,ra,gK0,gK1,gK2,gY0,gY1];refine⟨λh w' hr=>⟨by rw[Zl,ϝ h],hr.mod⟩,λh=>?_⟩;rw[Zl,ϛ h];refine⟨λvs=>∃(i:Nat) (x:V),vs=[x,.i i]/\i<=l.length/\Zhk (Zzw l i) (l.drop i)=Zhk Ϫ l,λvs=>l.length - (vs.getD 1 (.i 0)).toI.toNat,⟨0,_,rfl,O,rfl⟩,?_⟩;rintro _ - ⟨i,x,rfl,hi,hg⟩;simp only[QR,ra,gK0,gK1,gK2,gY0,gY1];have hi1:((i:Int) - 1).toNat=i - 1:=O
 try rw[hi1]
 refine⟨λh1=>⟨O,?_⟩,λh1 w' hr=>⟨?_,hr.mod⟩⟩
 ·rw[Zmt O]at hg;refine⟨[.i (Z4b (l.getD i kD))],rfl,λ_ w' _=>Z10n w' _ (Z9t hs i),?_⟩;simp only[QR,ra,gK0,gK1,gK2,gY0,gY1];try rw[hi1]
  refine⟨λh2 w' hr=>⟨?_,hr.mod⟩,λh2=>⟨O,O,O,O,?_⟩⟩
  ·rw[ϝ h2]at hg;rw[<- hg]
  ·rw[ϛ h2]at hg;refine⟨[.b (ltP (ky (l.getD (i - 1) kD)) (ky (l.getD i kD)))],rfl,λ_ w' _=>Zbv w' (l.getD (i - 1) kD) (l.getD i kD) (Z9t hs (i - 1)),?_⟩;simp only[QR,ra];simp only[Z13c]at hg;refine⟨λh6 w' hr=>⟨?_,hr.mod⟩,λh6=>⟨O,O,⟨i+1,x,rfl,O,?_⟩,O⟩⟩
   ·rw[ϝ ⟨h6.1,by simpa using h6.2⟩]at hg;rw[<- hg]
   ·rw[ϛ (λh7=>h6 ⟨h7.1,by simpa using h7.2⟩)]at hg;exact hg
 ·have:i=l.length:=O
  subst this;rw[Ϙ]at hg;rw[<- hg];rfl
def Z16b(R:List Kp)(x:Kp):R.map encK++[[.string ⟨x.1.toArray⟩,.string ⟨x.2.1.toArray⟩,.int .i64 x.2.2]]=(R++[x]).map encK:=by simp[encK]
def Zbw(w:ϙ)(v:Ϝ)(l:List Kp)(c f:By)(hv:Z1r w v l)(hl:l.length<1000000000):Ϟ ϗ 88 #[sc1 v,.string ⟨c.toArray⟩,.string ⟨f.toArray⟩] w λe w'=>∃v',e=.returned (sc1 v')/\Zcv w' v' (l.filter λw=>decide (¬(w.1=c/\w.2.1=f)))/\newV w.heap.size v'/\Mod [] w w':=by
 refine Wr (J:=[.v v,.r (l.map encK),.s c,.s f]) Z83 ?_;simp only[QR,ra,gK0,gK1,gK2,gY0,gY1];generalize hkp:(λw:Kp=>decide (¬(w.1=c/\w.2.1=f)))=kp
 have kp0:∀x:Kp,x.1=c/\x.2.1=f->¬kp x=Ϡ:=λx hx=>by rw[<- hkp];simp[hx]
 have kp1:∀x:Kp,¬(x.1=c/\x.2.1=f)->kp x=Ϡ:=λx hx=>by rw[<- hkp];exact decide_eq_true hx
 refine⟨λvs=>∃(i:Nat) (u:Ϝ),vs=[.v u,.r (((l.take i).filter kp).map encK),.i i]/\i<=l.length,λvs=>(l.length - (vs.getD 2 (.i 0)).toI).toNat,⟨0,_,rfl,O⟩,?_⟩;rintro _ - ⟨i,u,rfl,hi⟩;have hfl:((l.take i).filter kp).length<=l.length:=Ϥ (ϥ _ _) (by rw[Ϧ];omega);simp only[QR,ra,gK0,gK1,gK2,gY0,gY1];refine⟨λh1=>?_,λh1 w' hr=>?_⟩
 ·(repeat refine⟨O,?_⟩)
  refine⟨λh2 v1=>⟨O3,λv2=>⟨O,O,⟨i+1,v2,?_,O⟩,O⟩⟩,λh2=>⟨O,O,⟨i+1,u,?_,O⟩,O⟩⟩
  ·rw[Z3l kp l i O,ϝ (kp1 _ (λh=>h2.elim (λh3=>h3 h.1) (λh3=>h3 h.2))),<- Z16b];rfl
  ·rw[Z3l kp l i O,ϛ (kp0 _ ⟨qy9.1 λh=>h2 (.inl h),qy9.1 λh=>h2 (.inr h)⟩),ϕ];rfl
 ·(have hie:i=l.length:=O);subst hie;rw[Ϛ]at hr
  exact⟨u,rfl,hr.at_ 0 rfl,hr.fresh 0 rfl,hr.mod⟩
def Zh0(w:ϙ)(v:Ϝ)(l:List Kp)(c:By)(hv:Z1r w v l)(hl:l.length<1000000000):Ϟ ϗ 90 #[sc1 v,.string ⟨c.toArray⟩] w λe w'=>∃v',e=.returned (sc1 v')/\Zcv w' v' (l.filter λw=>decide (¬w.1=c))/\newV w.heap.size v'/\Mod [] w w':=by
 refine Wr (J:=[.v v,.r (l.map encK),.s c]) Z6b ?_;simp only[QR,ra,gK0,gK1,gK2,gY0,gY1];generalize hkp:(λw:Kp=>decide (¬w.1=c))=kp
 have kp0:∀x:Kp,x.1=c->¬kp x=Ϡ:=λx hx=>by rw[<- hkp];simp[hx]
 have kp1:∀x:Kp,¬x.1=c->kp x=Ϡ:=λx hx=>by rw[<- hkp];simp[hx]
 refine⟨λvs=>∃(i:Nat) (u:Ϝ),vs=[.v u,.r (((l.take i).filter kp).map encK),.i i]/\i<=l.length,λvs=>(l.length - (vs.getD 2 (.i 0)).toI).toNat,⟨0,_,rfl,O⟩,?_⟩;rintro _ - ⟨i,u,rfl,hi⟩;have hfl:((l.take i).filter kp).length<=l.length:=Ϥ (ϥ _ _) (by rw[Ϧ];omega);simp only[QR,ra,gK0,gK1,gK2,gY0,gY1];refine⟨λh1=>?_,λh1 w' hr=>?_⟩
 ·(repeat refine⟨O,?_⟩)
  refine⟨λh2 v1=>⟨O3,λv2=>⟨O,O,⟨i+1,v2,?_,O⟩,O⟩⟩,λh2=>⟨O,O,⟨i+1,u,?_,O⟩,O⟩⟩
  ·rw[Z3l kp l i O,ϝ (kp1 _ h2),<- Z16b];rfl
  ·rw[Z3l kp l i O,ϛ (kp0 _ (qy9.1 h2)),ϕ];rfl
 ·(have hie:i=l.length:=O);subst hie;rw[Ϛ]at hr
  exact⟨u,rfl,hr.at_ 0 rfl,hr.fresh 0 rfl,hr.mod⟩
variable{j:Nat}
def Zq4{d:List Kp}{x:Kp}(h0:0<j)(hj:j<=d.length): ((d.take j++[x]++d.drop j).set j ((d.take j++[x]++d.drop j).getD (j - 1) kD)).set (j - 1) ((d.take j++[x]++d.drop j).getD j kD)=d.take (j - 1)++[x]++d.drop (j - 1):=by
 obtain⟨k,rfl⟩:∃k,j=k+1:=⟨j - 1,O⟩
 have e1:=Zri d k O;have e2:=Zrh d k O;have lk:(d.take k).length=k:=O3
 rw[Ϣ];generalize d.getD k kD=y at e1 e2
 generalize d.take k=A at e1 e2 lk⊢
 generalize d.drop (k+1)=B at e2
 subst lk;rw[e1,e2];have g1:(A++[y]++[x]++B).getD A.length kD=y:=O1
 have g2:(A++[y]++[x]++B).getD (A.length+1) kD=x:=O1
 rw[g1,g2];have s1:(A++[y]++[x]++B).set (A.length+1) y=A++[y,y]++B:=O1
 rw[s1];simp
def Z6s{d:List Kp}{x:Kp}(hj:j<=d.length):(d.take j++[x]++d.drop j).getD j kD=x:=by
 have lk:(d.take j).length=j:=O3
 rw[qy1,δ,List.getElem?_append_right O];simp[lk]
def Zbx{d:List Kp}{x:Kp}(h0:0<j)(hj:j<=d.length):(d.take j++[x]++d.drop j).getD (j - 1) kD=d.getD (j - 1) kD:=by
 have lk:(d.take j).length=j:=O3
 rw[qy1,δ,List.getElem?_append_left O,List.getElem?_take_of_lt O,qy1]
def Znm{l:List Kp}(x:Kp)(hs:Z9u l):(l.filter λw=>decide (¬(w.1=x.1/\w.2.1=x.2.1)))=loW l (ky x)++hiW l (ky x):=by
 have hk:∀w:Kp,decide (¬(w.1=x.1/\w.2.1=x.2.1))=!decide (ky w=ky x):=λw=>by
  by_cases h:ky w=ky x
  ·have h1:w.1=x.1:=congrArg (λk:Ky=>k.1) h;have h2:w.2.1=x.2.1:=congrArg (λk:Ky=>k.2) h;simp[h,h1,h2]
  ·have:¬(w.1=x.1/\w.2.1=x.2.1):=λh2=>h (Prod.ext h2.1 h2.2);simp only[this,not_false_eq_true,decide_true,h,decide_false,Bool.not_false]
 conv=>lhs;rw[(Zml l (ky x) hs).1]
 rw[ϣ,ϣ];have q1:(loW l (ky x)).filter (λw=>decide (¬(w.1=x.1/\w.2.1=x.2.1)))=loW l (ky x):=Z6m λy hy=>by rw[hk];have:=Zmk (ϓ.1 hy).2;simp[this]
 have q2:(miW l (ky x)).filter (λw=>decide (¬(w.1=x.1/\w.2.1=x.2.1)))=[]:=Z4a λy hy=>by rw[hk];have:=(ϓ.1 hy).2;simp at this;simp[this]
 have q3:(hiW l (ky x)).filter (λw=>decide (¬(w.1=x.1/\w.2.1=x.2.1)))=hiW l (ky x):=Z6m λy hy=>by rw[hk];have:=Zmk (ϓ.1 hy).2;simp[Ne.symm this]
 rw[q1,q2,q3,ϕ]
def Zv8{l:List Kp}{x:Kp}(hs:Z9u l)(hl:l.length<=20):rawW l x=if 20<((loW l (ky x)++[x]++hiW l (ky x)).length:Int)then([],2)else(loW l (ky x)++[x]++hiW l (ky x),0):=by
 have hlen:=Z13f (n:=ky x) hs;have hlo:idxW l (ky x)=(loW l (ky x)).length:=rfl;simp only[qy11,ϐ,ϑ];by_cases h0:(rawW l x).2=0
 ·have e:=Zp1 hs h0;rw[ϛ,<- e,<- h0];have:=congrArg η e;simp only[qy11,ϐ,ϑ]at this;have h2:(rawW l x).1.length<=20:=by
   unfold rawW at h0⊢;by_cases h1:hasW l (ky x)=Ϡ
   ·rw[ϝ h1];simpa using hl
   ·rw[ϛ h1]at h0⊢;by_cases h4:(l.length:Int)=20
    ·rw[ϝ h4]at h0;exact ϟ h0 U
    ·rw[ϛ h4];have:=Z13e l (ky x);simp;omega
  omega
 ·unfold rawW at h0⊢;rcases Zws hs with⟨h1,-⟩|⟨h1,h2⟩
  ·rw[ϝ h1]at h0;exact ϟ rfl h0
  ·rw[ϛ (by rw[h1];decide)]at h0⊢;by_cases h4:(l.length:Int)=20
   ·rw[ϝ h4,ϝ];rw[h2]at hlen;simp only[ϑ]at hlen;omega
   ·rw[ϛ h4]at h0;exact ϟ rfl h0
def Zv9{lo hi:List Kp}{n:Ky}(h1:∀y∈lo,ltP (ky y) n=Ϡ)(h2:∀y∈hi,ltP n (ky y)=Ϡ)(hj:j<=(lo++hi).length)(h3:∀y∈(lo++hi).take j,ltP (ky y) n=Ϡ)(h4:∀y∈(lo++hi).drop j,ltP n (ky y)=Ϡ):(lo++hi).take j=lo/\(lo++hi).drop j=hi:=by
 have f1:(lo++hi).filter (λy=>ltP (ky y) n)=lo:=by rw[ϣ,Z6m h1,Z4a λy hy=>Ze8 (h2 y hy),ϕ]
 have f2:(lo++hi).filter (λy=>ltP (ky y) n)=(lo++hi).take j:=by
  conv=>lhs;rw[<- ϯ j (lo++hi)]
  rw[ϣ,Z6m h3,Z4a λy hy=>Ze8 (h4 y hy),ϕ]
 have e:=f2.symm.trans f1;refine⟨e,?_⟩;have:=ϯ j (lo++hi);rw[e]at this;exact List.append_cancel_left this
def Zva{l:List Kp}{x:Kp}(hs:Z9u l)(hj:j<=(loW l (ky x)++hiW l (ky x)).length)(h6:¬(0<(j:Int)/\ltP (ky (((loW l (ky x)++hiW l (ky x)).take j++[x]++(loW l (ky x)++hiW l (ky x)).drop j).getD j kD)) (ky (((loW l (ky x)++hiW l (ky x)).take j++[x]++(loW l (ky x)++hiW l (ky x)).drop j).getD (j - 1) kD))=Ϡ)): ∀y∈(loW l (ky x)++hiW l (ky x)).take j,ltP (ky y) (ky x)=Ϡ:=by
 have hsd:Z9u (loW l (ky x)++hiW l (ky x)):=by rw[<- Znm x hs];exact hs.filter _
 have hne:∀y∈loW l (ky x)++hiW l (ky x),ky y≠ky x:=λy hy=>by
  rcases qy13.1 hy with hy|hy
  ·exact Zmk (ϓ.1 hy).2
  ·exact(Zmk (ϓ.1 hy).2).symm
 generalize loW l (ky x)++hiW l (ky x)=d at *
 intro y hy;rcases Nat.eq_zero_or_pos j with rfl|h0
 ·simp at hy
 rw[Z6s hj,Zbx h0 hj]at h6;have h7:ltP (ky x) (ky (d.getD (j - 1) kD))=ϧ:=by
  cases h:ltP (ky x) (ky (d.getD (j - 1) kD))with
  | false=>rfl
  | true=>exact ϟ ⟨O,h⟩ h6
 have h8:ltP (ky (d.getD (j - 1) kD)) (ky x)=Ϡ:=by
  rcases Zua.1 h7 with h|h
  ·exact h
  ·exact ϟ h (hne _ (memW d (j - 1) O))
 obtain⟨i,hi,rfl⟩:=List.getElem_of_mem hy;rw[Ϧ]at hi;rw[List.getElem_take];by_cases hij:i=j - 1
 ·subst hij;rwa [qy1,qy7 O]at h8
 ·have:=Zou hsd (i:=i) (j:=j - 1) O O;have h9:=Z6l this h8;rwa [qy1,qy7 O]at h9
def Z16c(w:ϙ)(v:Ϝ)(l:List Kp)(x:Kp)(hv:Z1r w v l)(hs:Z9u l)(hl:l.length<=20)(hx:smW x):Ϟ ϗ 86 #[sc1 v,wV x] w λe w'=>gotK w w' e (rawW l x).1 (rawW l x).2:=by
  refine Wr (J:=[.v v,.r (l.map encK),.s x.1,.s x.2.1,.i x.2.2]) Z8k ?_;have hd0:=Znm x hs;have hdl:(loW l (ky x)++hiW l (ky x)).length<=20:=by rw[<- hd0];exact Ϥ (ϥ _ _) hl
  generalize hd:loW l (ky x)++hiW l (ky x)=d at hd0 hdl
  replace hd:=hd.symm;simp only[QR,ra,gK0,gK1,gK2,gY0,gY1];intro b1;refine⟨?_,?_,?_⟩
  . intro w1 hr;refine(Zbw w1 v l x.1 x.2.1 (by(have hq:=hr;repeat (first|exact hq.hd|replace hq:=hq.tl))) O).mono ?_;rw[hd0];rintro e w2 ⟨v',rfl,g1,g2,gm⟩;refine⟨[.v v',.r (d.map encK)],rfl,rfl,gm,qy5 _,qy2.2 ⟨⟨g1,λk hk=>.inl (g2 k hk)⟩,qy5 _⟩,Z2,?_⟩;clear hr g1 g2 gm;simp only[QR,ra,gK0,gK1,gK2,gY0,gY1];intro u1;refine⟨by first|omega|(simp only[qy11,qy3,ϐ,ϑ];omega),λu2=>⟨by first|omega|(simp only[qy11,qy3,ϐ,ϑ];omega),by first|omega|(simp only[qy11,qy3,ϐ,ϑ];omega),?_⟩⟩;refine⟨λvs=>∃j:Nat,vs=[.i j,.r ((d.take j++[x]++d.drop j).map encK)]/\j<=d.length/\∀y∈d.drop j,ltP (ky x) (ky y)=Ϡ,λvs=>(vs.getD 0 (.i 0)).toI.toNat,⟨d.length,?_,Ϸ _,?_⟩,?_⟩;(· rw[Ϛ,Ϙ,ϕ,<- Z16b];congr 1;congr 1;simp only[qy11,qy3,ϐ,ϑ];omega);(· rw[Ϙ];exact λy hy=>by cases hy);rintro _ - ⟨j,rfl,hj,hgt⟩;have hlR:(d.take j++[x]++d.drop j).length=d.length+1:=O3;simp only[QR,ra,gK0,gK1,gK2,gY0,gY1,hlR];(have hj1:((j:Int) - 1).toNat=j - 1:=O);(try rw[hj1]);(repeat refine⟨O,?_⟩);refine⟨[.b (ltP (ky ((d.take j++[x]++d.drop j).getD j kD)) (ky ((d.take j++[x]++d.drop j).getD (j - 1) kD)))],rfl,λh5 w' _=>Zbv w' ((d.take j++[x]++d.drop j).getD j kD) ((d.take j++[x]++d.drop j).getD (j - 1) kD) (by rw[Z6s hj];exact hx),?_⟩;simp only[QR,ra,gK0,gK1,gK2,gY0,gY1];(try rw[hj1]);refine⟨λh6=>?_,λh6=>?_⟩;(· (have h0:0<j:=O);(have h7:=h6.2);rw[Z6s hj,Zbx h0 hj]at h7;(repeat refine⟨O,?_⟩);refine⟨by rw[Ϯ,qy3,hlR];omega,⟨j - 1,?_,O,?_⟩,O⟩;(· rw[<- Zq4 h0 hj,<- Z1u,<- Z1u];congr 1;congr 1;omega);(· intro y hy;obtain⟨k,rfl⟩:∃k,j=k+1:=⟨j - 1,O⟩;rw[Ϣ]at hy h7;rw[Zrh d k O]at hy;rcases ϖ.1 hy with rfl|hy;(· exact h7);(· exact hgt y hy)));(· (have hpar:d.take j=loW l (ky x)/\d.drop j=hiW l (ky x):=by rw[hd]at hj hgt h6⊢;refine Zv9 (λy hy=>(ϓ.1 hy).2) (λy hy=>(ϓ.1 hy).2) hj (λy hy=>?_) hgt;exact Zva hs hj h6 y hy);rw[Zv8 hs hl,<- hpar.1,<- hpar.2,hlR];refine⟨λh8 w3 hr=>?_,λh8 w3 hr=>?_⟩;(· rw[ϝ h8];exact⟨_,rfl,Z2z _,Z2r _,hr.mod⟩);(· rw[ϛ h8];exact⟨u2,rfl,(hr.at_ 0 rfl).reads,hr.fresh 0 rfl,hr.mod⟩))
  . intro w1 hr;refine(Zbw w1 v l x.1 x.2.1 (by(have hq:=hr;repeat (first|exact hq.hd|replace hq:=hq.tl))) O).mono ?_;rw[hd0];rintro e w2 ⟨v',rfl,g1,g2,gm⟩;refine⟨[.v v',.r (d.map encK)],rfl,rfl,gm,qy5 _,qy2.2 ⟨⟨g1,λk hk=>.inl (g2 k hk)⟩,qy5 _⟩,Z2,?_⟩;clear hr g1 g2 gm;simp only[QR,ra,gK0,gK1,gK2,gY0,gY1];intro u1;refine⟨by first|omega|(simp only[qy11,qy3,ϐ,ϑ];omega),λu2=>⟨by first|omega|(simp only[qy11,qy3,ϐ,ϑ];omega),by first|omega|(simp only[qy11,qy3,ϐ,ϑ];omega),?_⟩⟩;refine⟨λvs=>∃j:Nat,vs=[.i j,.r ((d.take j++[x]++d.drop j).map encK)]/\j<=d.length/\∀y∈d.drop j,ltP (ky x) (ky y)=Ϡ,λvs=>(vs.getD 0 (.i 0)).toI.toNat,⟨d.length,?_,Ϸ _,?_⟩,?_⟩;(· rw[Ϛ,Ϙ,ϕ,<- Z16b];congr 1;congr 1;simp only[qy11,qy3,ϐ,ϑ];omega);(· rw[Ϙ];exact λy hy=>by cases hy);rintro _ - ⟨j,rfl,hj,hgt⟩;have hlR:(d.take j++[x]++d.drop j).length=d.length+1:=O3;simp only[QR,ra,gK0,gK1,gK2,gY0,gY1,hlR];(have hj1:((j:Int) - 1).toNat=j - 1:=O);(try rw[hj1]);(repeat refine⟨O,?_⟩);refine⟨[.b (ltP (ky ((d.take j++[x]++d.drop j).getD j kD)) (ky ((d.take j++[x]++d.drop j).getD (j - 1) kD)))],rfl,λh5 w' _=>Zbv w' ((d.take j++[x]++d.drop j).getD j kD) ((d.take j++[x]++d.drop j).getD (j - 1) kD) (by rw[Z6s hj];exact hx),?_⟩;simp only[QR,ra,gK0,gK1,gK2,gY0,gY1];(try rw[hj1]);refine⟨λh6=>?_,λh6=>?_⟩;(· (have h0:0<j:=O);(have h7:=h6.2);rw[Z6s hj,Zbx h0 hj]at h7;(repeat refine⟨O,?_⟩);refine⟨by rw[Ϯ,qy3,hlR];omega,⟨j - 1,?_,O,?_⟩,O⟩;(· rw[<- Zq4 h0 hj,<- Z1u,<- Z1u];congr 1;congr 1;omega);(· intro y hy;obtain⟨k,rfl⟩:∃k,j=k+1:=⟨j - 1,O⟩;rw[Ϣ]at hy h7;rw[Zrh d k O]at hy;rcases ϖ.1 hy with rfl|hy;(· exact h7);(· exact hgt y hy)));(· (have hpar:d.take j=loW l (ky x)/\d.drop j=hiW l (ky x):=by rw[hd]at hj hgt h6⊢;refine Zv9 (λy hy=>(ϓ.1 hy).2) (λy hy=>(ϓ.1 hy).2) hj (λy hy=>?_) hgt;exact Zva hs hj h6 y hy);rw[Zv8 hs hl,<- hpar.1,<- hpar.2,hlR];refine⟨λh8 w3 hr=>?_,λh8 w3 hr=>?_⟩;(· rw[ϝ h8];exact⟨_,rfl,Z2z _,Z2r _,hr.mod⟩);(· rw[ϛ h8];exact⟨u2,rfl,(hr.at_ 0 rfl).reads,hr.fresh 0 rfl,hr.mod⟩))
  . intro u1 w1 hr;refine(Zbw w1 v l x.1 x.2.1 (by(have hq:=hr;repeat (first|exact hq.hd|replace hq:=hq.tl))) O).mono ?_;rw[hd0];rintro e w2 ⟨v',rfl,g1,g2,gm⟩;refine⟨[.v v',.r (d.map encK)],rfl,rfl,gm,qy5 _,qy2.2 ⟨⟨g1,λk hk=>.inl (g2 k hk)⟩,qy5 _⟩,Z2,?_⟩;clear hr g1 g2 gm;simp only[QR,ra,gK0,gK1,gK2,gY0,gY1];refine⟨by first|omega|(simp only[qy11,qy3,ϐ,ϑ];omega),λu2=>⟨by first|omega|(simp only[qy11,qy3,ϐ,ϑ];omega),by first|omega|(simp only[qy11,qy3,ϐ,ϑ];omega),?_⟩⟩;refine⟨λvs=>∃j:Nat,vs=[.i j,.r ((d.take j++[x]++d.drop j).map encK)]/\j<=d.length/\∀y∈d.drop j,ltP (ky x) (ky y)=Ϡ,λvs=>(vs.getD 0 (.i 0)).toI.toNat,⟨d.length,?_,Ϸ _,?_⟩,?_⟩;(· rw[Ϛ,Ϙ,ϕ,<- Z16b];congr 1;congr 1;simp only[qy11,qy3,ϐ,ϑ];omega);(· rw[Ϙ];exact λy hy=>by cases hy);rintro _ - ⟨j,rfl,hj,hgt⟩;have hlR:(d.take j++[x]++d.drop j).length=d.length+1:=O3;simp only[QR,ra,gK0,gK1,gK2,gY0,gY1,hlR];(have hj1:((j:Int) - 1).toNat=j - 1:=O);(try rw[hj1]);(repeat refine⟨O,?_⟩);refine⟨[.b (ltP (ky ((d.take j++[x]++d.drop j).getD j kD)) (ky ((d.take j++[x]++d.drop j).getD (j - 1) kD)))],rfl,λh5 w' _=>Zbv w' ((d.take j++[x]++d.drop j).getD j kD) ((d.take j++[x]++d.drop j).getD (j - 1) kD) (by rw[Z6s hj];exact hx),?_⟩;simp only[QR,ra,gK0,gK1,gK2,gY0,gY1];(try rw[hj1]);refine⟨λh6=>?_,λh6=>?_⟩;(· (have h0:0<j:=O);(have h7:=h6.2);rw[Z6s hj,Zbx h0 hj]at h7;(repeat refine⟨O,?_⟩);refine⟨by rw[Ϯ,qy3,hlR];omega,⟨j - 1,?_,O,?_⟩,O⟩;(· rw[<- Zq4 h0 hj,<- Z1u,<- Z1u];congr 1;congr 1;omega);(· intro y hy;obtain⟨k,rfl⟩:∃k,j=k+1:=⟨j - 1,O⟩;rw[Ϣ]at hy h7;rw[Zrh d k O]at hy;rcases ϖ.1 hy with rfl|hy;(· exact h7);(· exact hgt y hy)));(· (have hpar:d.take j=loW l (ky x)/\d.drop j=hiW l (ky x):=by rw[hd]at hj hgt h6⊢;refine Zv9 (λy hy=>(ϓ.1 hy).2) (λy hy=>(ϓ.1 hy).2) hj (λy hy=>?_) hgt;exact Zva hs hj h6 y hy);rw[Zv8 hs hl,<- hpar.1,<- hpar.2,hlR];refine⟨λh8 w3 hr=>?_,λh8 w3 hr=>?_⟩;(· rw[ϝ h8];exact⟨_,rfl,Z2z _,Z2r _,hr.mod⟩);(· rw[ϛ h8];exact⟨u2,rfl,(hr.at_ 0 rfl).reads,hr.fresh 0 rfl,hr.mod⟩))
def Z1kd(R:List Rd)(c:By)(q:Int):R.map encY++[[.string ⟨c.toArray⟩,.int .i64 q]]=(R++[(c,q)]).map encY:=by simp[encY]
def setY(R:List Rd)(m:Nat)(c:By)(q:Int):(R.map encY).set m [.string ⟨c.toArray⟩,.int .i64 q]=(R.set m (c,q)).map encY:=by rw[List.map_set];rfl
def Z1ax(n:By)(l:List Kp)(i:Nat)(h:i<l.length):rdF n [] (l.take (i+1))=if forW n (l.getD i kD)=Ϡ then addY (rdF n [] (l.take i)) (l.getD i kD)else rdF n [] (l.take i):=by rw[Zri l i h,rdF,List.foldl_append];rfl
def Z1ay{out:List Rd}{w:Kp}(h:out.length=0\/¬(out.getD (out.length - 1) yD).1=w.1):addY out w=out++[(w.1,max 0 w.2.2)]:=by
 rcases ϰ out with rfl|⟨o,x,rfl⟩
 ·exact Zov w
 ·rw[ϱ]at *;rw[Zea,ϛ];rcases h with h|h
  ·simp at h
  ·simpa[qy1]using h
def Z1az{out:List Rd}{w:Kp}(h:¬(out.length=0\/¬(out.getD (out.length - 1) yD).1=w.1)):addY out w=out.set (out.length - 1) ((out.getD (out.length - 1) yD).1,max (out.getD (out.length - 1) yD).2 w.2.2):=by
 rcases ϰ out with rfl|⟨o,x,rfl⟩
 ·exact ϟ (.inl rfl) h
 ·rw[ϱ]at *;have h1:=qy9.1 λh2=>h (.inr (by simpa[qy1]using h2));rw[Zea,ϝ h1];simp[ϲ]
def Zvb(w:ϙ)(v:Ϝ)(l:List Kp)(n:By)(hv:Z1r w v l)(hs:Z2d l)(hl:l.length<1000000000)(hn:n.length<1000000000):Ϟ ϗ 130 #[sc1 v,.string ⟨n.toArray⟩] w λe w'=>∃v',e=.returned (sc1 v')/\Z195 w' v' (rdOf n l)/\newV w.heap.size v'/\Mod [] w w':=by
 refine Wu (J:=[.v v,.r (l.map encK),.s n]) Z75 (Rel.start2 (by simp[Ent.holds,Ent.wr,hv,X.ev])) ?_;simp only[QR,ra,gK0,gK1,gK2,gY0,gY1];refine⟨λvs=>∃(i:Nat) (u:Ϝ),vs=[.v u,.r ((rdF n [] (l.take i)).map encY),.i i]/\i<=l.length,λvs=>(l.length - (vs.getD 2 (.i 0)).toI).toNat,⟨0,_,rfl,O⟩,?_⟩;rintro _ - ⟨i,u,rfl,hi⟩;have hlen:(rdF n [] (l.take i)).length<=i:=by have:=Zow n (l.take i) [];rw[Ϧ]at this;simp only[ϑ]at this;omega
 simp only[QR,ra,gK0,gK1,gK2,gY0,gY1];refine⟨λh1=>⟨O,?_⟩,λh1 w' hr=>?_⟩
 ·have sx:=Z9t hs i;have hstep:=Z1ax n l i O;refine⟨[.b (forW n (l.getD i kD))],rfl,λ_ w' _=>Z12q w' (l.getD i kD).2.1 n (by have:=sx.2;omega) O,?_⟩;generalize rdF n [] (l.take i)=out at hlen hstep⊢
  generalize l.getD i kD=x at hstep⊢
  have k1:((out.length:Int) - 1).toNat=out.length - 1:=O
  have k2:((out.length:Int)+1 - 1).toNat=out.length:=O
  simp only[QR,ra,gK0,gK1,gK2,gY0,gY1,k1,k2,Z1kd,setY];refine⟨λh2=>?_,λh2=>?_⟩
  ·(repeat refine⟨O,?_⟩)
   refine⟨⟨i+1,u,?_,O⟩,O⟩;rw[hstep,ϛ h2];rfl
  ·have h2:forW n x=Ϡ:=qy9.1 h2;rw[ϝ h2]at hstep
   (repeat refine⟨O,?_⟩)
   refine⟨λh3 v1=>⟨by first|omega|(simp only[qy11,qy3,ϐ,ϑ];omega),λv2=>?_⟩,λh3=>?_⟩
   ·have e:=Z1ay (out:=out) (h3.imp (λh=>O) id);have g:(out++[(x.1,(0:Int))]).getD out.length yD=(x.1,0):=by simp[qy1]
    simp only[qy11,ϐ,ϑ,g]
    (repeat refine⟨O,?_⟩)
    refine⟨λh4=>?_,λh4=>?_⟩
    ·(repeat refine⟨O,?_⟩)
     refine⟨⟨i+1,v2,?_,by omega⟩,by omega⟩;rw[hstep,e,show max 0 x.2.2=x.2.2 by omega];simp[ϲ]
    ·(repeat refine⟨by omega,?_⟩)
     refine⟨⟨i+1,v2,?_,by omega⟩,by omega⟩;rw[hstep,e,show max 0 x.2.2=0 by omega];rfl
   ·have h3':¬(out.length=0\/¬(out.getD (out.length - 1) yD).1=x.1):=λh=>h3 (h.imp (λh=>by omega) id);have e:=Z1az (out:=out) h3';have hpos:0<out.length:=Nat.pos_of_ne_zero λh=>h3' (.inl h)
    (repeat refine⟨by omega,?_⟩)
    refine⟨λh4=>?_,λh4=>?_⟩
    ·(repeat refine⟨by omega,?_⟩)
     refine⟨⟨i+1,u,?_,by omega⟩,by omega⟩;rw[hstep,e,show max (out.getD (out.length - 1) yD).2 x.2.2=x.2.2 by omega];rfl
    ·(repeat refine⟨by omega,?_⟩)
     refine⟨⟨i+1,u,?_,by omega⟩,by omega⟩;rw[hstep,e,show max (out.getD (out.length - 1) yD).2 x.2.2=(out.getD (out.length - 1) yD).2 by omega];have:out.set (out.length - 1) ((out.getD (out.length - 1) yD).1,(out.getD (out.length - 1) yD).2)=out:=by rw[qy1,qy7 (by omega)];exact List.set_getElem_self (by omega)
     rw[this];rfl
 ·have hie:i=l.length:=by omega
  subst hie;rw[Ϛ]at hr;exact⟨u,rfl,hr.at_ 0 rfl,hr.fresh 0 rfl,hr.mod⟩
def Zvc(w:ϙ)(u v:Ϝ)(a b:List Kp)(hu:Z1r w u a)(hv:Z1r w v b)(hl:a.length<1000000000):Ϟ ϗ 98 #[sc1 u,sc1 v] w λe w'=>e=.returned (.bool (decide (a=b)))/\Mod [] w w':=by
 refine Wr (J:=[.v u,.r (a.map encK),.v v,.r (b.map encK)]) Z74 ?_;simp only[QR,ra,gK0,gK1,gK2,gY0,gY1];refine⟨λh w' hr=>⟨?_,hr.mod⟩,λh=>?_⟩
 ·rw[decide_eq_false];rintro rfl;exact h rfl
 have h:a.length=b.length:=O
 refine⟨λvs=>∃(i:Nat) (x:V),vs=[x,.i i]/\i<=a.length/\∀j,j<i->a.getD j kD=b.getD j kD,λvs=>a.length - (vs.getD 1 (.i 0)).toI.toNat,⟨0,_,rfl,O,λj hj=>O⟩,?_⟩;rintro _ - ⟨i,x,rfl,hi,hs⟩;simp only[QR,ra,gK0,gK1,gK2,gY0,gY1];refine⟨λh1=>⟨O,O,λh2 w' hr=>⟨?_,hr.mod⟩,λh2=>⟨O,O,⟨i+1,x,rfl,O,λj hj=>?_⟩,O⟩⟩,λh1 w' hr=>⟨?_,hr.mod⟩⟩
 ·rw[decide_eq_false];rintro rfl;rcases h2 with h2|h2
  ·exact h2 rfl
  ·exact h2 ⟨rfl,rfl⟩
 ·by_cases hji:j=i
  ·subst hji;have h3:=qy9.1 λh3=>h2 (.inl h3);have h4:=qy9.1 λh3=>h2 (.inr h3);exact Prod.ext h3 (Prod.ext h4.1 h4.2)
  ·exact hs j O
 ·rw[decide_eq_true];refine Ϭ h λj hj1 hj2=>?_;have:=hs j O;rwa [qy1,qy1,qy7 hj1,qy7 hj2]at this
def atS(l:List Ses)(n:By):Int:=if hasS l n=Ϡ then(idxS l n:Int)else -1
def Z48(w:ϙ)(v:Ϝ)(l:List SesX)(n:By)(hv:reads w v kSx (l.map Ze))(hs:Z77 (l.map (·.1)))(hl:l.length<1000000000): Ϟ ϗ 23 #[sc1 v,.string ⟨n.toArray⟩] w λe w'=>e=.returned (.int .i64 (atS (l.map (·.1)) n))/\Mod [] w w':=by
 refine Wr (J:=[.v v,.r (l.map Ze),.s n]) Z7e ?_;simp only[QR,ra];refine⟨λvs=>∃(i:Nat) (x:V),vs=[x,.i i]/\i<=l.length/\∀j,j<i->¬(l.getD j sxD).1.cl=n,λvs=>l.length - (vs.getD 1 (.i 0)).toI.toNat,⟨0,_,rfl,O,λj hj=>O⟩,?_⟩;rintro _ - ⟨i,x,rfl,hi,hall⟩;simp only[QR,ra,gSx0];refine⟨λh1=>⟨O,λh2 w' hr=>⟨?_,hr.mod⟩,λh2=>⟨O,O,⟨i+1,x,rfl,O,λj hj=>?_⟩,O⟩⟩,λh1 w' hr=>⟨?_,hr.mod⟩⟩
 ·have hi':i<l.length:=O
  have e:=Zkl (n:=n) (i:=i) O (λk hk=>by rw[<- h2];exact Zes hs (i:=k) (j:=i) hk hi') (λk h3 h4=>by
   by_cases hk:k=i
   ·rw[hk,h2];exact Zs _
   ·rw[<- h2];exact Z1h (Zes hs (i:=i) (j:=k) O h4))
  have hh:hasS (l.map (·.1)) n=Ϡ:=decide_eq_true (by rw[<- e,Zhm,qy3];exact⟨hi',h2⟩);rw[atS,ϝ hh,<- e]
 ·by_cases hji:j=i
  ·rw[hji];exact h2
  ·exact hall j O
 ·have hie:i=l.length:=O
  have hh:¬hasS (l.map (·.1)) n=Ϡ:=λh=>by obtain⟨h3,h4⟩:=Z9z h;rw[qy3]at h3;rw[Zhm]at h4;exact hall _ O h4
  rw[atS,ϛ hh]
def Zt3(x y:Tel):Bool:=decide (x.next=y.next/\x.kept=y.kept/\x.wants=y.wants/\x.wat=y.wat/\x.sess=y.sess)
def Zt4{x y:Tel}:Zt3 x y=Ϡ↔{ x with out:=[] }={ y with out:=[] }:=by cases x;cases y;simp only[Zt3,ϡ,Tel.mk.injEq];exact⟨λ⟨a,b,c,d,e⟩=>⟨b,c,e,d,a,trivial⟩,λ⟨b,c,e,d,a,_⟩=>⟨a,b,c,d,e⟩⟩
def Z1g9{a b:List SesX}(hl:a.length=b.length)(h:∀i,i<a.length->(a.getD i sxD).1=(b.getD i sxD).1):a.map (·.1)=b.map (·.1):=by refine Ϭ (by simpa using hl) λi h1 h2=>?_;rw[qy3]at h1 h2;have:=h i h1;rw[qy1,qy1,qy7 h1,qy7 h2]at this;simpa using this
def Zh1(w:ϙ)(x y:TelX)(hx:RdX w x)(hy:RdX w y)(h1:x.kept.length<1000000000)(h2:x.wants.length<1000000000)(h3:x.wat.length<1000000000)(h4:x.sx.length<1000000000)(h5:∀t∈x.sx,t.1.fl.length<1000000000/\t.1.qu.length<1000000000): Ϟ ϗ 36 #[bkV x,bkV y] w λe w'=>e=.returned (.bool (Zt3 x.tel y.tel))/\Mod [] w w':=by
 refine Wu (J:=bkA x++bkA y) Z6t (Rel.start2 (qy2.2 ⟨⟨hx.kept,rfl⟩,qy2.2 ⟨⟨hx.want,rfl⟩,qy2.2 ⟨⟨hx.sess,rfl⟩,qy2.2 ⟨⟨hx.nest,rfl⟩,qy2.2 ⟨⟨hx.wat,rfl⟩,qy2.2 ⟨⟨hy.kept,rfl⟩,qy2.2 ⟨⟨hy.want,rfl⟩,qy2.2 ⟨⟨hy.sess,rfl⟩,qy2.2 ⟨⟨hy.nest,rfl⟩,qy2.2 ⟨⟨hy.wat,rfl⟩,qy5 _⟩⟩⟩⟩⟩⟩⟩⟩⟩⟩)) ?_;simp only[QR,ra];intro b20 b21;refine⟨[.b (decide (x.kept=y.kept))],rfl,λ_ w' hr=>Zzq w' x.kv y.kv _ _ (hr.at_ 2 rfl) (hr.at_ 7 rfl) h1,?_⟩;simp only[QR,ra];refine⟨[.b (decide (x.wants=y.wants))],rfl,λ_ w' hr=>Zvc w' x.wv y.wv _ _ (hr.at_ 3 rfl) (hr.at_ 8 rfl) h2,?_⟩;simp only[QR,ra];refine⟨[.b (decide (x.wat=y.wat))],rfl,λ_ w' hr=>Zoi w' x.av y.av _ _ (hr.at_ 6 rfl) (hr.at_ 11 rfl) O,?_⟩;simp only[QR,ra,ϡ];have hsl:x.tel.sess=y.tel.sess->x.sx.length=y.sx.length:=λe=>by have:=congrArg η e;simpa[TelX.tel]using this
 refine⟨λh w' hr=>⟨?_,hr.mod⟩,λh=>?_⟩
 ·have:¬Zt3 x.tel y.tel=Ϡ:=λhh=>by
   obtain⟨a,b,c,d,e⟩:=of_decide_eq_true hh;have:=hsl e;rcases h with(((h|h)|h)|h)|h
   ·exact h a
   ·exact h b
   ·exact h c
   ·exact h d
   ·omega
  rw[ϫ.2 this]
 ·have hn:=ϒ λh6=>h (.inl (.inl (.inl (.inl h6))));have hk:=ϒ λh6=>h (.inl (.inl (.inl (.inr h6))));have hw:=ϒ λh6=>h (.inl (.inl (.inr h6)));have ha:x.wat=y.wat:=ϒ λh6=>h (.inl (.inr h6));have hl:x.sx.length=y.sx.length:=by
   have:(x.sx.length:Int)=y.sx.length:=ϒ λh6=>h (.inr h6);omega
  refine⟨λvs=>∃(i:Nat) (u:V),vs=[u,.i i]/\i<=x.sx.length/\∀j,j<i->(x.sx.getD j sxD).1=(y.sx.getD j sxD).1,λvs=>x.sx.length - (vs.getD 1 (.i 0)).toI.toNat,⟨0,_,rfl,O,λj hj=>O⟩,?_⟩;rintro _ - ⟨i,u,rfl,hi,hall⟩;simp only[QR,ra];refine⟨λh6=>⟨O,O,?_⟩,λh6 w' hr=>⟨?_,hr.mod⟩⟩
  ·have hi1:i<x.sx.length:=O
   have hi2:i<y.sx.length:=O
   have r1:=Z57 hi1;have r2:=Z57 hi2;have m1:=Z58 hi1;refine⟨[.b (decide ((x.sx.getD i sxD).1=(y.sx.getD i sxD).1))],rfl,λ_ w' hr=>?_,?_⟩
   ·have n1:=Zy (hr.at_ 5 rfl) m1;have n2:=Zy (hr.at_ 10 rfl) (Z58 hi2);refine Zb (Zol w' (x.sx.getD i sxD).1 (y.sx.getD i sxD).1 (x.sx.getD i sxD).2.1 (x.sx.getD i sxD).2.2 (y.sx.getD i sxD).2.1 (y.sx.getD i sxD).2.2 n1.1 n1.2 n2.1 n2.2 (h5 _ m1).1 (h5 _ m1).2) ?_;simp only[QR,ra,r1,r2,Ze,Ϻ,ϻ,Value.gI,Value.gB,Value.gS,Zv,sesV]
   simp only[QR,ra,ϡ];refine⟨λh7 w' hr=>⟨?_,hr.mod⟩,λh7=>⟨O,O,⟨i+1,u,rfl,O,λj hj=>?_⟩,O⟩⟩
   ·have:¬Zt3 x.tel y.tel=Ϡ:=λhh=>by
     obtain⟨-,-,-,-,e⟩:=of_decide_eq_true hh;have e2:=congrArg (λl:List Ses=>l.getD i s0) e;simp only[TelX.tel,Zhm]at e2;exact h7 e2
    rw[ϫ.2 this]
   ·by_cases hji:j=i
    ·rw[hji];exact qy9.1 h7
    ·exact hall j O
  ·have hie:i=x.sx.length:=O
   have:Zt3 x.tel y.tel=Ϡ:=decide_eq_true ⟨hn,hk,hw,ha,Z1g9 hl (λj hj=>hall j O)⟩;rw[this]
def Zq5{α:Type}(f:α->By):∀l:List α,(∀a,1<=(f a).length)->l.length<=(l.map f).flatten.length
 | [],_=>O1
 | a::l,h=>by have h1:=Zq5 f l h;have h2:=h a;simp only[List.map_cons,List.flatten_cons,qy11,ϐ];omega
def Zgj{p:Pkt}(h:chkP p=0):SmallP p:=by obtain⟨hf,hl⟩:=Zx2 h;simp only[Z20,qy11]at hl;have h1:=Zq5 (numB 1) p.codes (λa=>by rw[Zc];exact Ϸ _);have h2:=Zq5 (Z21 p.kind) p.asks (λa=>by unfold Z21 txtB;split<;>simp[Zc]<;>omega);exact⟨by have:=hf.client;omega,by have:=hf.topic;omega,O,O,O,λa ha=>by have:=(hf.asks a ha).1;omega⟩
def Snt.eq_iff{a b:Snt}:a=b↔a.client=b.client/\a.peer=b.peer/\a.pk=b.pk/\(a.msg.kind=b.msg.kind/\a.msg.code=b.msg.code/\a.msg.id=b.msg.id/\a.msg.tok=b.msg.tok/\a.msg.pay=b.msg.pay/\a.msg.opts=b.msg.opts):=by obtain⟨c,p,n,k,d,i,t,o,y⟩:=a;obtain⟨c',p',n',k',d',i',t',o',y'⟩:=b;simp only[Snt.mk.injEq,Msg.mk.injEq];exact⟨λ⟨a,b,c,d,e,f,g,h,i⟩=>⟨a,c,b,d,e,f,g,i,h⟩,λ⟨a,c,b,d,e,f,g,i,h⟩=>⟨a,b,c,d,e,f,g,h,i⟩⟩
noncomputable def Z16d(a b:List Snt):Bool:=@decide (a=b) (ϭ _)
def Zf3{a b:List Snt}:Z16d a b=Ϡ↔a=b:=@decide_eq_true_iff _ (ϭ _)
def Zyf(l:List SntX):Prop:=∀t∈l,SmallP t.1.pk/\t.1.msg.opts.length<1099511627776
def Zt5{l:List SntX}(h:Z27 (l.map (·.1))):Zyf l:=λt ht=>by
 rcases h t.1 (Ϩ ht)with⟨-,h1,h2⟩|⟨-,h1,h2,-⟩
 ·have:=(Zac.1 h1).2.2.1;exact⟨by rw[h2];exact⟨U,U,U,U,U,λa ha=>by cases ha⟩,O⟩
 ·exact⟨Zgj h1,by rw[h2];decide⟩
def Z1ga{a b:List SntX}(hl:a.length=b.length)(h:∀i,i<a.length->(a.getD i sntD).1=(b.getD i sntD).1):a.map (·.1)=b.map (·.1):=by refine Ϭ (by simpa using hl) λi h1 h2=>?_;rw[qy3]at h1 h2;have:=h i h1;rw[qy1,qy1,qy7 h1,qy7 h2]at this;simpa using this
def Z1ke(l:List SntX)(i:Nat):(l.map (·.1)).getD i sntD.1=(l.getD i sntD).1:=by rw[qy1,qy1,γ];cases l[i]?<;>rfl
def Znn(w:ϙ)(x y:Ϝ)(a b:List SntX)(sx sy:List SesX)(hx:reads w x kSn (a.map Zp))(hy:reads w y kSn (b.map Zp))(nx_Z:(Z3 sx a).holds w)(ny:(Z3 sy b).holds w)(hs:Zyf a)(hl:a.length<1000000000): Ϟ ϗ 37 #[sc1 x,sc1 y] w λe w'=>e=.returned (.bool (Z16d (a.map (·.1)) (b.map (·.1))))/\Mod [] w w':=by
  refine Wu (J:=[.v x,.r (a.map Zp),.a (Z3 sx a),.v y,.r (b.map Zp),.a (Z3 sy b)]) Z8b (Rel.start2 (qy2.2 ⟨⟨hx,rfl⟩,qy2.2 ⟨⟨nx_Z,rfl⟩,qy2.2 ⟨⟨hy,rfl⟩,qy2.2 ⟨⟨ny,rfl⟩,qy5 _⟩⟩⟩⟩)) ?_;simp only[QR,ra];have hlen:a.map (·.1)=b.map (·.1)->a.length=b.length:=λe=>by have:=congrArg η e;simpa using this
  have no:¬a.map (·.1)=b.map (·.1)->Z16d (a.map (·.1)) (b.map (·.1))=ϧ:=λh=>ϫ.2 λh2=>h (Zf3.1 h2);refine⟨λh w' hr=>⟨by rw[no λe=>h (by rw[hlen e])],hr.mod⟩,λh=>?_⟩;have h:a.length=b.length:=O
  refine⟨λvs=>∃(i:Nat) (u:V),vs=[u,.i i]/\i<=a.length/\∀j,j<i->(a.getD j sntD).1=(b.getD j sntD).1,λvs=>a.length - (vs.getD 1 (.i 0)).toI.toNat,⟨0,_,rfl,O,λj hj=>O⟩,?_⟩;rintro _ - ⟨i,u,rfl,hi,hall⟩;simp only[QR,ra];refine⟨λh6=>⟨O,O,?_⟩,λh6 w' hr=>⟨?_,hr.mod⟩⟩
  . have hi1:i<a.length:=O
    have hi2:i<b.length:=O
    have r1:=Z1ag hi1;have r2:=Z1ag hi2;have m1:=Z1ah hi1;have m2:=Z1ah hi2;have hne:¬(a.getD i sntD).1=(b.getD i sntD).1->Z16d (a.map (·.1)) (b.map (·.1))=ϧ:=λh7=>no λe=>h7 (by have e2:=congrArg (λl:List Snt=>l.getD i sntD.1) e;simp only[Z1ke]at e2;exact e2)
    simp only[r1,r2,Zp,Ϻ,ϻ,Value.gI,Value.gB,Value.gS,Zv];generalize ga:a.getD i sntD=ta at *
    generalize gb:b.getD i sntD=tb at *
    obtain⟨⟨ac,ap,an,am⟩,a1,a2,a3⟩:=ta;obtain⟨⟨bc,bp,bn,bm⟩,b1,b2,b3⟩:=tb;have hsm:=hs _ m1;simp only[Snt.eq_iff]at hne;simp only at hsm⊢;refine⟨[.b (decide (ap=bp))],rfl,λ_ w' hr=>?_,?_⟩
    . have n1:=Z7n (hr.at_ 1 rfl) m1;have n2:=Z7n (hr.at_ 3 rfl) m2;exact Zb (Zlt w' ap bp a1 a2 b1 b2 n1.1 n1.2.1 n2.1 n2.2.1 hsm.1) rfl
    simp only[QR,ra];refine⟨[.b (decide (am.kind=bm.kind/\am.code=bm.code/\am.id=bm.id/\am.tok=bm.tok/\am.pay=bm.pay/\am.opts=bm.opts))],rfl,λ_ w' hr=>?_,?_⟩
    . have n1:=Z7n (hr.at_ 1 rfl) m1;have n2:=Z7n (hr.at_ 3 rfl) m2;exact Zb (Zp3 w' am bm a3 b3 n1.2.2 n2.2.2 hsm.2) rfl
    simp only[QR,ra,ϡ];refine⟨λh7 w' hr=>⟨?_,hr.mod⟩,λh7=>⟨O,O,⟨i+1,u,rfl,O,λj hj=>?_⟩,O⟩⟩
    . rw[hne];rintro⟨q1,q2,q3,q4⟩;rcases h7 with((h7|h7)|h7)|h7
      . exact h7 q1
      . exact h7 q2
      . exact h7 q3
      . exact h7 q4
    . by_cases hji:j=i
      . rw[hji,ga,gb];exact Snt.eq_iff.2 ⟨ϒ λh8=>h7 (.inl (.inl (.inl h8))),ϒ λh8=>h7 (.inl (.inl (.inr h8))),ϒ λh8=>h7 (.inl (.inr h8)),ϒ λh8=>h7 (.inr h8)⟩
      . exact hall j O
  . have hie:i=a.length:=O
    rw[Zf3.2 (Z1ga h (λj hj=>hall j O))]
def sA:Ses:=⟨[97,110,110],Ϡ,ϧ,[],[],65535⟩
def Z1iu(w:ϙ):Ϟ ϗ 95 #[] w λe w'=>e=.returned (sesV sA (.slice Ϫ 0 0) (.slice Ϫ 0 0))/\Mod [] w w':=by refine Wp (J:=[]) Zb1 ?_;simp only[QR];exact λb w' hr=>⟨rfl,hr.mod⟩
open Go
structure SmlT(t:Tel):Prop where
 kept:Zb5 t.kept
 keptL:t.kept.length<1000000000
 wants:Z2d t.wants
 wantsL:t.wants.length<1000000000
 sess:∀s∈t.sess,Zkz s
 sessL:t.sess.length<1000000
 wat:Z9n t.wat
 watL:t.wat.length<1000000000
variable{x:TelX}
def SmlT.b(h:SmlT x.tel):SmlB x :=
 ⟨h.kept,h.keptL,h.wants,h.wantsL,λt ht=>h.sess _ (Ϩ ht),by have:=h.sessL;rw[show x.tel.sess.length=x.sx.length by simp[TelX.tel]]at this;exact this,h.wat,h.watL⟩
def SmlT.f(h:SmlT x.tel):∀t∈x.sx,t.1.fl.length<1000000000/\t.1.qu.length<1000000000:=λt ht=>by have:=h.sess _ (Ϩ ht);exact⟨this.2.2.1,this.2.2.2.1⟩
def SmlT.nil:SmlT telN:=⟨λx hx=>(ϔ hx).elim,U,λx hx=>(ϔ hx).elim,U,λx hx=>(ϔ hx).elim,U,λx hx=>(ϔ hx).elim,U⟩
def Zl2{f:Fl}(h:flE f=0):f.2.1.length<4294967281:=by
 unfold flE at h;split at h
 ·rename_i h1;have:=(Z4r.1 h1).2.1.1;omega
 ·exact ϟ h O5
def Z16e{s:Ses}(h:SesOk s):Zkz s:=by have h1:=h.nf;have h2:=h.nq;have h3:=h.cl;unfold Z9 at h3;rw[Bool.and_eq_true,ϡ]at h3;exact⟨λx hx=>Zl2 (h.fl.each x hx).1,λx hx=>Zl2 (h.qu x hx).1,O,O,O⟩
def Z16f{l:List Wat}(h:Z1d l=0):Z9n l:=λx hx=>by
 have h1:=((Z17.1 h).2.1 x hx).1;unfold Z4x at h1
 (repeat' split at h1)<;>first|(have:=(Z4r.1 h1).2.1.1;omega)|simp at h1
def SmlT.of{t:Tel}(h:BOk t):SmlT t:=by obtain⟨k1,k2,-⟩:=Z11.1 h.kept;have h3:=(Z1v.1 h.wants).1;have h4:=(Z17.1 h.wat).1;have h5:=h.ns;exact⟨λx hx=>by have:=(Z4r.1 (k2 x hx).1).2.1.1;omega,O,Z8v h.wants,O,λs hs=>Z16e (h.ses s hs),O,Z16f h.wat,O⟩
variable{e:Int}
def SmlT.res{t:Tel}(h:e=0->BOk t):SmlT (resB e t):=by
 unfold resB;split
 ·exact .of (h O5)
 ·exact .nil
abbrev TelX.bare(y:TelX):TelX:={ y with ox:=[],ov:=.slice Ϫ 0 0 }
variable{y:TelX}
def Z2k{w:ϙ}(h:(Z3 y.sx y.ox).holds w):(Z3 y.sx []).holds w:=Z10 (λt ht=>.inl ht) (λt ht=>(ϔ ht).elim) h
def Zif(y:TelX):y.bare.tel={ y.tel with out:=[] }:=rfl
def Za7{J:List V}{es:List Ent}(h:∀e∈es,e.wr=ϧ):Zt J es:=by
 induction es with
 | nil=>exact List.Pairwise.nil
 | cons a es ih =>
  refine ϩ.2 ⟨λb hb hw=>?_,ih λe he=>h e (qy10 _ he)⟩;rw[h a (qy8 ..),h b (qy10 _ hb)]at hw;rcases hw with hw|hw<;>cases hw
abbrev brV(y:TelX)(e:Int):List V:=[.v y.kv,.r (y.kept.map encK),.v y.wv,.r (y.wants.map encK),.v y.sv,.r (y.sx.map Ze),.v y.av,.r (y.wat.map Z4),.i y.next,.v y.ov,.r (y.ox.map Zp),.i e,.a (Z3 y.sx y.ox)]
abbrev brEs(n:Nat):List Ent:=[.rd n kK (.var (n+1)),.rd (n+2) kK (.var (n+3)),.rd (n+4) kSx (.var (n+5)),.rd (n+6) kW_K (.var (n+7)),.rd (n+9) kSn (.var (n+10)),.st (n+12)]
abbrev gnV(y:TelX)(e:Int):List V:=[.v y.kv,.r (y.kept.map encK),.v y.wv,.r (y.wants.map encK),.v y.sv,.r (y.sx.map Ze),.v y.av,.r (y.wat.map Z4),.i y.next,.i e,.a (Z3 y.sx y.ox)]
abbrev gnEs(n:Nat):List Ent:=[.rd n kK (.var (n+1)),.rd (n+2) kK (.var (n+3)),.rd (n+4) kSx (.var (n+5)),.rd (n+6) kW_K (.var (n+7)),.st (n+10)]
abbrev smV(y:TelX):List V:=[.v y.kv,.r (y.kept.map encK),.v y.wv,.r (y.wants.map encK),.v y.sv,.r (y.sx.map Ze),.v y.av,.r (y.wat.map Z4),.i y.next,.a (Z3 y.sx y.ox)]
abbrev smEs(n:Nat):List Ent:=[.rd n kK (.var (n+1)),.rd (n+2) kK (.var (n+3)),.rd (n+4) kSx (.var (n+5)),.rd (n+6) kW_K (.var (n+7)),.st (n+9)]
section
variable {P:Program} {f:Nat} {args:Array Ϝ} {w:ϙ} {B:Base} {J:List V} {hp:List Ent}
variable{n m:Nat}{w1:ϙ}
def Z1iv{Q:Ent->Nat->Prop}(hn:J.length=n)(h:RdB m w1 y):∀x∈brEs n,x.holds (J++brV y e) w1/\∀k,x.fp (J++brV y e) k->m<=k\/Q x k:=by
 have g:=Zd7 (vs:=brV y e) hn;have g0:(J++brV y e).getD n (.i 0)=.v y.kv:=g 0;refine qy2.2 ⟨⟨?_,λk hk=>.inl ?_⟩,qy2.2 ⟨⟨?_,λk hk=>.inl ?_⟩,qy2.2 ⟨⟨?_,λk hk=>.inl ?_⟩,qy2.2 ⟨⟨?_,λk hk=>.inl ?_⟩,qy2.2 ⟨⟨?_,λk hk=>.inl ?_⟩,qy2.2 ⟨⟨?_,λk hk=>.inl ?_⟩,qy5 _⟩⟩⟩⟩⟩⟩ <;>
  simp only[Ent.holds,Ent.fp,X.ev,g0,g 1,g 2,g 3,g 4,g 5,g 6,g 7,g 9,g 10,g 12]at *
 ·exact h.kept
 ·exact h.nk k hk.1 hk.2
 ·exact h.want
 ·exact h.nw k hk.1 hk.2
 ·exact h.sess
 ·exact h.ns k hk.1 hk.2
 ·exact h.wat
 ·exact h.na k hk.1 hk.2
 ·exact h.out
 ·exact h.no k hk.1 hk.2
 ·exact h.nest
 ·exact h.nn k hk
def Z1iw{Q:Ent->Nat->Prop}(hn:J.length=n)(h:RdB m w1 y):∀x∈gnEs n,x.holds (J++gnV y e) w1/\∀k,x.fp (J++gnV y e) k->m<=k\/Q x k:=by
 have g:=Zd7 (vs:=gnV y e) hn;have g0:(J++gnV y e).getD n (.i 0)=.v y.kv:=g 0;refine qy2.2 ⟨⟨?_,λk hk=>.inl ?_⟩,qy2.2 ⟨⟨?_,λk hk=>.inl ?_⟩,qy2.2 ⟨⟨?_,λk hk=>.inl ?_⟩,qy2.2 ⟨⟨?_,λk hk=>.inl ?_⟩,qy2.2 ⟨⟨?_,λk hk=>.inl ?_⟩,qy5 _⟩⟩⟩⟩⟩ <;>
  simp only[Ent.holds,Ent.fp,X.ev,g0,g 1,g 2,g 3,g 4,g 5,g 6,g 7,g 10]at *
 ·exact h.kept
 ·exact h.nk k hk.1 hk.2
 ·exact h.want
 ·exact h.nw k hk.1 hk.2
 ·exact h.sess
 ·exact h.ns k hk.1 hk.2
 ·exact h.wat
 ·exact h.na k hk.1 hk.2
 ·exact h.nest
 ·exact h.nn k hk
def Z1ix{Q:Ent->Nat->Prop}(hn:J.length=n)(h:RdB m w1 y):∀x∈smEs n,x.holds (J++smV y) w1/\∀k,x.fp (J++smV y) k->m<=k\/Q x k:=by
 have g:=Zd7 (vs:=smV y) hn;have g0:(J++smV y).getD n (.i 0)=.v y.kv:=g 0;refine qy2.2 ⟨⟨?_,λk hk=>.inl ?_⟩,qy2.2 ⟨⟨?_,λk hk=>.inl ?_⟩,qy2.2 ⟨⟨?_,λk hk=>.inl ?_⟩,qy2.2 ⟨⟨?_,λk hk=>.inl ?_⟩,qy2.2 ⟨⟨?_,λk hk=>.inl ?_⟩,qy5 _⟩⟩⟩⟩⟩ <;>
  simp only[Ent.holds,Ent.fp,X.ev,g0,g 1,g 2,g 3,g 4,g 5,g 6,g 7,g 9]at *
 ·exact h.kept
 ·exact h.nk k hk.1 hk.2
 ·exact h.want
 ·exact h.nw k hk.1 hk.2
 ·exact h.sess
 ·exact h.ns k hk.1 hk.2
 ·exact h.wat
 ·exact h.na k hk.1 hk.2
 ·exact h.nest
 ·exact h.nn k hk
def Zyg{t:Tel}(h0:Rel B J hp w)(n:Nat)(h:Ϟ P f args w λr w1=>Zq1 w w1 r e t)(hn:J.length=n): Ϟ P f args w λr w1=>∃y:TelX,y.tel=t/\RdB w.heap.size w1 y/\r=.returned (.tuple #[bkV y,sc1 y.ov,.int .i64 e])/\Mod (Zn J [] []) w w1 /\ (∀x∈brEs n,x.holds (J++brV y e) w1/\∀k,x.fp (J++brV y e) k->w.heap.size<=k\/(x.wr=ϧ/\∃y∈hp,y.wr=ϧ/\y.fp J k)\/k∈Zq J [])/\Zt (J++brV y e) (brEs n):=by refine h.mono ?_;rintro r w1 ⟨y,hr,hy,hd,hm⟩;exact⟨y,hy,hd,hr,hm,Z1iv hn hd,Za7 (by intro e he;simp only[ϖ,ϔ,or_false]at he;rcases he with rfl|rfl|rfl|rfl|rfl|rfl<;>rfl)⟩
def Z1iy{t:Tel}(h0:Rel B J hp w)(n:Nat)(h:Ϟ P f args w λr w1=>Zv6 w w1 r e t)(hn:J.length=n): Ϟ P f args w λr w1=>∃y:TelX,y.tel=t/\y.ox=[]/\RdB w.heap.size w1 y/\r=.returned (.tuple #[bkV y,.int .i64 e])/\Mod (Zn J [] []) w w1 /\ (∀x∈gnEs n,x.holds (J++gnV y e) w1/\∀k,x.fp (J++gnV y e) k->w.heap.size<=k\/(x.wr=ϧ/\∃y∈hp,y.wr=ϧ/\y.fp J k)\/k∈Zq J [])/\Zt (J++gnV y e) (gnEs n):=by refine h.mono ?_;rintro r w1 ⟨y,hr,ho,hy,hd,hm⟩;exact⟨y,hy,ho,hd,hr,hm,Z1iw hn hd,Za7 (by intro e he;simp only[ϖ,ϔ,or_false]at he;rcases he with rfl|rfl|rfl|rfl|rfl<;>rfl)⟩
def Z16g(w w':ϙ)(r:Ending)(t:Tel):Prop:=∃y:TelX,r=.returned (bkV y)/\y.ox=[]/\y.tel=t/\RdB w.heap.size w' y/\Mod [] w w'
def Zl3{t:Tel}(h0:Rel B J hp w)(n:Nat)(h:Ϟ P f args w λr w1=>Z16g w w1 r t)(hn:J.length=n): Ϟ P f args w λr w1=>∃y:TelX,y.tel=t/\y.ox=[]/\RdB w.heap.size w1 y/\r=.returned (bkV y)/\Mod (Zn J [] []) w w1 /\ (∀x∈smEs n,x.holds (J++smV y) w1/\∀k,x.fp (J++smV y) k->w.heap.size<=k\/(x.wr=ϧ/\∃y∈hp,y.wr=ϧ/\y.fp J k)\/k∈Zq J [])/\Zt (J++smV y) (smEs n):=by refine h.mono ?_;rintro r w1 ⟨y,hr,ho,hy,hd,hm⟩;exact⟨y,hy,ho,hd,hr,hm,Z1ix hn hd,Za7 (by intro e he;simp only[ϖ,ϔ,or_false]at he;rcases he with rfl|rfl|rfl|rfl|rfl<;>rfl)⟩
end
def Z1co{w:ϙ}{c:By}{p:Pkt}{va vc:Ϝ}(h:RdX w x)(ha:reads w va [.str,.int .i64] (p.asks.map encA))(hc:reads w vc [.int .i64] (p.codes.map Zg)): Rel ⟨[],w⟩ (bkA x++Zcc c p va vc) (bkH++[.rd 23 [.str,.int .i64] (.var 24),.rd 25 [.int .i64] (.var 26)]) w :=
 Rel.start2 (qy2.2 ⟨⟨h.kept,rfl⟩,qy2.2 ⟨⟨h.want,rfl⟩,qy2.2 ⟨⟨h.sess,rfl⟩,qy2.2 ⟨⟨h.nest,rfl⟩,qy2.2 ⟨⟨h.wat,rfl⟩,qy2.2 ⟨⟨ha,rfl⟩,qy2.2 ⟨⟨hc,rfl⟩,qy5 _⟩⟩⟩⟩⟩⟩⟩)
def Z1cp{w:ϙ}{n:Int}{m:Msg}{mv:Ϝ}(h:RdX w x)(ha:reads w mv [.int .i64,.str] (m.opts.map encO)):Rel ⟨[],w⟩ (bkA x++([.i n]++mgV m mv)) (bkH++[.rd 15 [.int .i64,.str] (.var 16)]) w :=
 Rel.start2 (qy2.2 ⟨⟨h.kept,rfl⟩,qy2.2 ⟨⟨h.want,rfl⟩,qy2.2 ⟨⟨h.sess,rfl⟩,qy2.2 ⟨⟨h.nest,rfl⟩,qy2.2 ⟨⟨h.wat,rfl⟩,qy2.2 ⟨⟨ha,rfl⟩,qy5 _⟩⟩⟩⟩⟩⟩)
def Z1iz{w:ϙ}{c:By}(h:RdX w x):Rel ⟨[],w⟩ (bkA x++[.s c]) bkH w :=
 Rel.start2 (qy2.2 ⟨⟨h.kept,rfl⟩,qy2.2 ⟨⟨h.want,rfl⟩,qy2.2 ⟨⟨h.sess,rfl⟩,qy2.2 ⟨⟨h.nest,rfl⟩,qy2.2 ⟨⟨h.wat,rfl⟩,qy5 _⟩⟩⟩⟩⟩)
def smT:Tel:=⟨kA,wA.take 2,[sA],wL.take 1,0,[]⟩
def Z1gb(w:ϙ):(Z3 [((sA,.slice Ϫ 0 0,.slice Ϫ 0 0):SesX)] []).holds w :=
 Z10 (λt ht=>.inr (by rw[qy12.1 ht];exact⟨Z6 w _,Z6 w _⟩)) (λt ht=>.inl ht) (Z6r w)
def Z10o:∀j,¬(Z3 [((sA,.slice Ϫ 0 0,.slice Ϫ 0 0):SesX)] []).fp j:=λj hj=>by
 rcases Z7.1 hj with⟨t,ht,h⟩|⟨t,ht,-⟩
 ·rw[qy12.1 ht]at h;rcases h with h|h<;>exact h.1 rfl
 ·cases ht
def Zd8(w:ϙ):Ϟ ϗ 34 #[] w λr w'=>Z16g w w' r smT:=by
 refine Wu Zau (Rel.start w []) ?_;simp only[QR,ra];intro b0;refine⟨λvs=>∃u1 u3 u5 u14 u15 u17:Ϝ,vs=[.v u1,.r (kA.map encK),.v u3,.r (wA.map encK),.v u5,.s sA.cl,.b sA.on,.b sA.clean,.v (.slice Ϫ 0 0),.r [],.v (.slice Ϫ 0 0),.r [],.i sA.next,.v u14,.v u15,.r (wL.map Z4),.v u17,.r ((wL.take 1).map Z4),.r [Ze (sA,.slice Ϫ 0 0,.slice Ϫ 0 0)],.r ((wA.take 2).map encK)] /\
  (∀k,Z1 u1 k->w.heap.size<=k)/\(∀k,Z1 u5 k->w.heap.size<=k)/\(∀k,Z1 u17 k->w.heap.size<=k),?_,?_⟩
 ·repeat' first
   | (intro w1 hr1;refine(Z1hu w1).mono ?_;rintro e w2 ⟨u1,rfl,a1,f1,m1⟩;refine⟨[.v u1,.r (kA.map encK)],rfl,rfl,m1,qy5 _,qy2.2 ⟨⟨a1,λk hk=>.inl (f1 k hk.2)⟩,qy5 _⟩,Z2,?_⟩;have g1:∀k,Z1 u1 k->w.heap.size<=k:=λk hk=>Ϥ hr1.mod.size (f1 k hk);clear hr1 a1 f1 m1)
   | (intro w1 hr1;refine(Z1em w1).mono ?_;rintro e w2 ⟨u3,rfl,a1,f1,m1⟩;refine⟨[.v u3,.r (wA.map encK)],rfl,rfl,m1,qy5 _,qy2.2 ⟨⟨a1,λk hk=>.inl (f1 k hk.2)⟩,qy5 _⟩,Z2,?_⟩;have g3:∀k,Z1 u3 k->w.heap.size<=k:=λk hk=>Ϥ hr1.mod.size (f1 k hk);clear hr1 a1 f1 m1)
   | (intro w1 hr1;refine(Z14h w1).mono ?_;rintro e w2 ⟨u15,rfl,a1,f1,m1⟩;refine⟨[.v u15,.r (wL.map Z4)],rfl,rfl,m1,qy5 _,qy2.2 ⟨⟨a1,λk hk=>.inl (f1 k hk.2)⟩,qy5 _⟩,Z2,?_⟩;have g15:∀k,Z1 u15 k->w.heap.size<=k:=λk hk=>Ϥ hr1.mod.size (f1 k hk);clear hr1 a1 f1 m1)
   | (intro w1 hr1;refine(Z1iu w1).mono ?_;rintro e w2 ⟨rfl,m1⟩;refine⟨[.s sA.cl,.b sA.on,.b sA.clean,.v (.slice Ϫ 0 0),.r [],.v (.slice Ϫ 0 0),.r [],.i sA.next],rfl,rfl,m1,qy5 _,qy2.2 ⟨⟨Z6 w2 _,λk hk=>ϟ rfl hk.1⟩,qy2.2 ⟨⟨Z6 w2 _,λk hk=>ϟ rfl hk.1⟩,qy5 _⟩⟩,Za7 (by simp[Ent.wr]),?_⟩;clear hr1 m1)
   | (refine⟨(by show(2:Int)<=((wA.map encK).length);decide),?_⟩)
   | (refine⟨(by show(1:Int)<=((wL.map Z4).length);decide),?_⟩)
   | (refine And.intro ?_ ?_)
   | (intro u5 h5;have g5:∀k,Z1 u5 k->w.heap.size<=k:=λk hk=>g3 k (h5 k hk);clear h5)
   | (intro u17 h17;have g17:∀k,Z1 u17 k->w.heap.size<=k:=λk hk=>g15 k (h17 k hk);clear h17)
   | (intro u14 h14;clear h14)
   | exact⟨_,_,_,_,_,_,rfl,g1,g5,g17⟩
 ·rintro _ - ⟨u1,u3,u5,u14,u15,u17,rfl,g1,g5,g17⟩;simp only[QR,ra];intro w3 hr3;refine⟨⟨kA,wA.take 2,[(sA,.slice Ϫ 0 0,.slice Ϫ 0 0)],wL.take 1,0,[],u1,u5,u14,u17,.slice Ϫ 0 0⟩,rfl,rfl,rfl,⟨hr3.at_ 7 rfl,hr3.at_ 5 rfl,(hr3.at_ 2 rfl).reads,hr3.at_ 0 rfl,Z6 _ _,Z1gb _,λj _=>g1 j,λj _=>g5 j,λj _=>Z2v hr3 2 rfl j,λj _=>g17 j,λj=>ϟ rfl,λj hj=>ϟ hj (Z10o j)⟩,hr3.mod⟩
end Go.Proofs.Y
namespace Go.Proofs.Y
open Go Go.Sx
def runA(l:List SesX)(L:List AllX):Asrt:=rdsZ (nest l []++L.flatMap allT)
variable{l:List SesX}
def Z4c{L:List AllX}{w:ϙ}:(runA l L).holds w↔(Z3 l []).holds w/\(allA L).holds w :=
 ⟨λh=>⟨λt ht=>h t (ϸ _ ht),λt ht=>h t (ϳ _ ht)⟩,λh t ht=>(qy13.1 ht).elim (h.1 t) (h.2 t)⟩
variable{k:Nat}
def Za8{L:List AllX}:(runA l L).fp k↔(Z3 l []).fp k\/(allA L).fp k :=
 ⟨λ⟨t,ht,hk⟩=>(qy13.1 ht).imp (λh=>⟨t,h,hk⟩) (λh=>⟨t,h,hk⟩),λh=>h.elim (λ⟨t,ht,hk⟩=>⟨t,ϸ _ ht,hk⟩) (λ⟨t,ht,hk⟩=>⟨t,ϳ _ ht,hk⟩)⟩
def Z1kf{B:Base}{J:List V}{v ty v' ty':Nat}{ks ks':List Kd}{r r':X}{hp:List Ent}{w:ϙ}(h:Rel B J (.row v ty ks r::.row v' ty' ks' r'::hp) w):Rel B J (.rd v ks r::.rd v' ks' r'::hp) w :=
  (toRd h.tl).cons (owns.reads h.hd) (Bool.noConfusion) (λe' he' _ k hk hk'=>by
    rcases ϖ.1 he' with rfl|he'
    . exact(ϩ.1 h.sep).1 _ (qy8 ..) (.inl rfl) k hk.2 hk'.2
    . exact(ϩ.1 h.sep).1 e' (qy10 _ he') (.inl rfl) k hk.2 hk')
def Zq6{B:Base}{J:List V}{hp:List Ent}{w:ϙ}(h:Rel B J hp w)(hb:hp.all (Ent.bd J.length)=Ϡ)(ty:Nat)(ks:List Kd):Rel B (J++[.v (.slice Ϫ 0 0),.r []]) (.row J.length ty ks (.var (J.length+1))::hp) w:=by
 have g0:(J++[V.v (.slice Ϫ 0 0),.r []]).getD J.length (.i 0)=.v (.slice Ϫ 0 0):=O1
 have g1:(J++[V.v (.slice Ϫ 0 0),.r []]).getD (J.length+1) (.i 0)=.r []:=O1
 have hf:∀k,¬Ent.fp (J++[V.v (.slice Ϫ 0 0),.r []]) k (.row J.length ty ks (.var (J.length+1))):=λk hk=>by simp only[Ent.fp,g0,V.toV_v,Z1,Value.ownBlock]at hk;cases hk
 refine(h.ext (Z18.app J _) hb).cons ?_ (λ_ k hk=>ϟ hk (hf k)) (λ_ _ _ k hk _=>ϟ hk (hf k));simp only[Ent.holds,X.ev,g0,g1,V.toV_v,V.toR_r];exact⟨O1,World.ownsRow_nil _ _ _ _⟩
def Zq7(w w':ϙ)(e:Ending)(f:Int)(t:Tel×List Ky):Prop :=
 ∃(y:TelX) (r:List Ky) (rv:Ϝ),e=.returned (.tuple #[bkV y,sc1 rv,sc1 y.ov,.int .i64 f])/\(y.tel,r)=t/\RdB w.heap.size w' y/\reads w' rv kR (r.map Z2j)/\(∀j,(r.map Z2j).flatten≠[]->Z1 rv j->w.heap.size<=j)/\Mod [] w w'
abbrev spV(y:TelX)(r:List Ky)(rv:Ϝ)(f:Int):List V:=[.v y.kv,.r (y.kept.map encK),.v y.wv,.r (y.wants.map encK),.v y.sv,.r (y.sx.map Ze),.v y.av,.r (y.wat.map Z4),.i y.next,.v rv,.r (r.map Z2j),.v y.ov,.r (y.ox.map Zp),.i f,.a (Z3 y.sx y.ox)]
abbrev spEs(n:Nat):List Ent:=[.rd n kK (.var (n+1)),.rd (n+2) kK (.var (n+3)),.rd (n+4) kSx (.var (n+5)),.rd (n+6) kW_K (.var (n+7)),.rd (n+9) kR (.var (n+10)),.rd (n+11) kSn (.var (n+12)),.st (n+14)]
structure RdR(n:Nat)(w:World)(y:TelX)(L:List AllX)(av:Value):Prop where
 rd:RdB n w y
 none:y.ox=[]
 all:reads w av kAl (L.map Zt1)
 new:∀j,(L.map Zt1).flatten≠[]->Z1 av j->n<=j
 nest:(runA y.sx L).holds w
 nn:∀j,(runA y.sx L).fp j->n<=j
def Zvd(w w':ϙ)(e:Ending)(f:Int)(t:Tel)(T:List (List Snt)):Prop :=
 ∃(y:TelX) (L:List AllX) (av:Ϝ),e=.returned (.tuple #[bkV y,sc1 av,.int .i64 f])/\y.tel=t/\L.map (λt=>t.1.map (·.1))=T/\RdR w.heap.size w' y L av/\Mod [] w w'
abbrev rnV(y:TelX)(L:List AllX)(av:Ϝ)(f:Int):List V:=[.v y.kv,.r (y.kept.map encK),.v y.wv,.r (y.wants.map encK),.v y.sv,.r (y.sx.map Ze),.v y.av,.r (y.wat.map Z4),.i y.next,.v av,.r (L.map Zt1),.i f,.a (runA y.sx L)]
abbrev rnEs(n:Nat):List Ent:=[.rd n kK (.var (n+1)),.rd (n+2) kK (.var (n+3)),.rd (n+4) kSx (.var (n+5)),.rd (n+6) kW_K (.var (n+7)),.rd (n+9) kAl (.var (n+10)),.st (n+12)]
section
variable {P:Program} {f:Nat} {args:Array Ϝ} {w:ϙ} {B:Base} {J:List V} {hp:List Ent}
variable{e:Int}
def Zno{t:Tel×List Ky}(h0:Rel B J hp w)(n:Nat)(h:Ϟ P f args w λr w1=>Zq7 w w1 r e t)(hn:J.length=n): Ϟ P f args w λq w1=>∃(y:TelX) (r:List Ky) (rv:Ϝ),(y.tel,r)=t/\RdB w.heap.size w1 y/\q=.returned (.tuple #[bkV y,sc1 rv,sc1 y.ov,.int .i64 e])/\Mod (Zn J [] []) w w1 /\ (∀x∈spEs n,x.holds (J++spV y r rv e) w1/\∀k,x.fp (J++spV y r rv e) k->w.heap.size<=k\/(x.wr=ϧ/\∃y∈hp,y.wr=ϧ/\y.fp J k)\/k∈Zq J [])/\Zt (J++spV y r rv e) (spEs n):=by
 refine h.mono ?_;rintro q w1 ⟨y,r,rv,hr,hy,hd,h1,h2,hm⟩;refine⟨y,r,rv,hy,hd,hr,hm,?_,Za7 (by intro e he;simp only[ϖ,ϔ,or_false]at he;rcases he with rfl|rfl|rfl|rfl|rfl|rfl|rfl<;>rfl)⟩;have g:=Zd7 (vs:=spV y r rv e) hn;have g0:(J++spV y r rv e).getD n (.i 0)=.v y.kv:=g 0;refine qy2.2 ⟨⟨?_,λk hk=>.inl ?_⟩,qy2.2 ⟨⟨?_,λk hk=>.inl ?_⟩,qy2.2 ⟨⟨?_,λk hk=>.inl ?_⟩,qy2.2 ⟨⟨?_,λk hk=>.inl ?_⟩,qy2.2 ⟨⟨?_,λk hk=>.inl ?_⟩,qy2.2 ⟨⟨?_,λk hk=>.inl ?_⟩,qy2.2 ⟨⟨?_,λk hk=>.inl ?_⟩,qy5 _⟩⟩⟩⟩⟩⟩⟩ <;>
  simp only[Ent.holds,Ent.fp,X.ev,g0,g 1,g 2,g 3,g 4,g 5,g 6,g 7,g 9,g 10,g 11,g 12,g 14]at *
 ·exact hd.kept
 ·exact hd.nk k hk.1 hk.2
 ·exact hd.want
 ·exact hd.nw k hk.1 hk.2
 ·exact hd.sess
 ·exact hd.ns k hk.1 hk.2
 ·exact hd.wat
 ·exact hd.na k hk.1 hk.2
 ·exact h1
 ·exact h2 k hk.1 hk.2
 ·exact hd.out
 ·exact hd.no k hk.1 hk.2
 ·exact hd.nest
 ·exact hd.nn k hk
def Zh2{t:Tel}{T:List (List Snt)}(h0:Rel B J hp w)(n:Nat)(h:Ϟ P f args w λr w1=>Zvd w w1 r e t T)(hn:J.length=n): Ϟ P f args w λq w1=>∃(y:TelX) (L:List AllX) (av:Ϝ),y.tel=t/\L.map (λt=>t.1.map (·.1))=T/\y.ox=[]/\q=.returned (.tuple #[bkV y,sc1 av,.int .i64 e])/\Mod (Zn J [] []) w w1 /\ (∀x∈rnEs n,x.holds (J++rnV y L av e) w1/\∀k,x.fp (J++rnV y L av e) k->w.heap.size<=k\/(x.wr=ϧ/\∃y∈hp,y.wr=ϧ/\y.fp J k)\/k∈Zq J [])/\Zt (J++rnV y L av e) (rnEs n):=by
 refine h.mono ?_;rintro q w1 ⟨y,L,av,hr,hy,hT,hd,hm⟩;refine⟨y,L,av,hy,hT,hd.none,hr,hm,?_,Za7 (by intro e he;simp only[ϖ,ϔ,or_false]at he;rcases he with rfl|rfl|rfl|rfl|rfl|rfl<;>rfl)⟩;have g:=Zd7 (vs:=rnV y L av e) hn;have g0:(J++rnV y L av e).getD n (.i 0)=.v y.kv:=g 0;refine qy2.2 ⟨⟨?_,λk hk=>.inl ?_⟩,qy2.2 ⟨⟨?_,λk hk=>.inl ?_⟩,qy2.2 ⟨⟨?_,λk hk=>.inl ?_⟩,qy2.2 ⟨⟨?_,λk hk=>.inl ?_⟩,qy2.2 ⟨⟨?_,λk hk=>.inl ?_⟩,qy2.2 ⟨⟨?_,λk hk=>.inl ?_⟩,qy5 _⟩⟩⟩⟩⟩⟩ <;>
  simp only[Ent.holds,Ent.fp,X.ev,g0,g 1,g 2,g 3,g 4,g 5,g 6,g 7,g 9,g 10,g 12]at *
 ·exact hd.rd.kept
 ·exact hd.rd.nk k hk.1 hk.2
 ·exact hd.rd.want
 ·exact hd.rd.nw k hk.1 hk.2
 ·exact hd.rd.sess
 ·exact hd.rd.ns k hk.1 hk.2
 ·exact hd.rd.wat
 ·exact hd.rd.na k hk.1 hk.2
 ·exact hd.all
 ·exact hd.new k hk.1 hk.2
 ·exact hd.nest
 ·exact hd.nn k hk
end
end Go.Proofs.Y
namespace Go.Proofs.Y
open Go.Sx
def Z1b0(w:ϙ)(s:By)(hs:s.length<1099511627776):Ϟ ϗ 120 #[.string ⟨s.toArray⟩] w λe w'=>Z15p w w' e (dec s):=by
  refine Wp (J:=[.s s]) Zcp ?_;simp only[QR,ra];intro b1 b;have hh:=Z1fz s;generalize hR1:numM 1 s ϧ=R1 at hh
  generalize hR2:numM 1 R1.2.1 R1.2.2=R2 at hh
  generalize hR3:numM 2 R2.2.1 R2.2.2=R3 at hh
  simp only[hR1,hR2,hR3]at hh;have hb1:0<=R1.1/\R1.1<256:=by have:=Zkx (k:=1) s ϧ O;rw[hR1]at this;omega
  have hl1:R1.2.1.length<=s.length:=by rw[<- hR1];exact Zey _ _ _
  have hl2:R2.2.1.length<=R1.2.1.length:=by rw[<- hR2];exact Zey _ _ _
  have hl3:R3.2.1.length<=R2.2.1.length:=by rw[<- hR3];exact Zey _ _ _
  obtain⟨x,hx⟩:∃x:Nat,R1.1=x:=⟨R1.1.toNat,O⟩
  have hxb:x<256:=O
  intro w1 hr;refine(Zbu w1 b s ϧ 1 O hs (hr.at_ 0 rfl)).mono ?_;rintro e w2 ⟨rfl,c1,c2⟩;rw[hR1]at c1;refine⟨[.i R1.1,.s R1.2.1,.b R1.2.2],rfl,by rw[hR1];rfl,c2,qy2.2 ⟨c1,qy5 _⟩,qy5 _,Z8,?_⟩;simp only[QR,ra];intro w1 hr;refine(Zbu w1 b R1.2.1 R1.2.2 1 O O (hr.at_ 0 rfl)).mono ?_;rintro e w2 ⟨rfl,c1,c2⟩;rw[hR2]at c1;refine⟨[.i R2.1,.s R2.2.1,.b R2.2.2],rfl,by rw[hR2];rfl,c2,qy2.2 ⟨c1,qy5 _⟩,qy5 _,Z8,?_⟩;simp only[QR,ra];intro b9;intro w1 hr;refine(Zbu w1 b R2.2.1 R2.2.2 2 O O (hr.at_ 1 rfl)).mono ?_;rintro e w2 ⟨rfl,c1,c2⟩;rw[hR3]at c1;refine⟨[.i R3.1,.s R3.2.1,.b R3.2.2],rfl,by rw[hR3];rfl,c2,qy2.2 ⟨c1,qy5 _⟩,qy5 _,Z8,?_⟩;simp only[QR,ra];rw[hx,Z1cl x hxb];intro w1 hr;refine(Zy9 w1 b R3.2.1 R3.2.2 ((x % 16:Nat):Int) O (hr.at_ 1 rfl)).mono ?_;rintro e w2 ⟨rfl,c1,c2⟩;generalize hT4:Z4m ((x % 16:Nat):Int) R3.2.1 R3.2.2=T4 at c1⊢
  have hl4:T4.2.1.length<=s.length/\T4.1.length<=s.length:=by have:=Zsr ((x % 16:Nat):Int) R3.2.1 R3.2.2;rw[hT4]at this;omega
  have hsh4:T4.2.2=Ϡ->T4.2.1=[]:=by
    rcases hh with⟨_,h5,h6⟩|⟨h5,_,_,_,_,h6⟩
    . rw[h5,h6]at hT4;subst hT4;intro _;unfold Z4m;split<;>simp
    . rw[h6]at hT4;subst hT4;unfold Z4m;split
      . intro _;rfl
      . intro h;cases h
  refine⟨[.s T4.1,.s T4.2.1,.b T4.2.2],rfl,rfl,c2,qy2.2 ⟨c1,qy5 _⟩,qy5 _,Z8,?_⟩;simp only[QR,ra];intro w1 hr;refine(Z10k w1 b T4.2.1 T4.2.2 O hsh4 (hr.at_ 1 rfl)).mono ?_;rintro e w2 ⟨v,os,s',sh',rfl,hrd,hfr,c1,c2,hlo,hT⟩;have hfr1:Zk1 w.heap.size v os:=hfr.mono hr.mod.size;refine⟨[.v v,.r (os.map encO),.s s',.b sh'],rfl,rfl,c2,qy2.2 ⟨c1,qy5 _⟩,qy2.2 ⟨⟨hrd,λk hk=>.inl (hfr k hk)⟩,qy5 _⟩,Z2,?_⟩;have hfin:((sh'=Ϡ\/¬(x / 64=1)\/8<T4.1.length)->dec s=(mNil,1))/\(¬(sh'=Ϡ\/¬(x / 64=1)\/8<T4.1.length)->dec s=finM ⟨((x / 16 % 4:Nat):Int),R2.1,R3.1,T4.1,os,[]⟩ s'):=by
    rcases hh with⟨h4,h5,h6⟩|⟨h4,h5,h6,h7,h8,h9⟩
    . have hsh:T4.2.2=Ϡ:=by rw[h6]at hT4;rw[<- hT4];exact Za6 _ _
      rw[hsh,ϝ rfl]at hT;have hs':sh'=Ϡ:=by
        rcases hT with hT|hT
        . exact hT.1
        . exact ϟ hT.2 O1
      exact⟨λ_=>by rw[dec,ϝ h4],λh=>ϟ (.inl hs') h⟩
    . have hx0:(s.getD 0 0).toNat=x:=by rw[hx]at h5;omega
      rw[h8,h9,Z4m,List.length_drop]at hT4;by_cases hn:s.length<4+x % 16
      . rw[ϝ O]at hT4;subst hT4;simp only[if_true]at hT;have hs':sh'=Ϡ:=by
          rcases hT with hT|hT
          . exact hT.1
          . exact ϟ hT.2 O1
        exact⟨λ_=>Zf1 h4 (.inl (by rw[hx0];exact .inr (.inr hn))),λh=>ϟ (.inl hs') h⟩
      . rw[ϛ O]at hT4;subst hT4;simp only[qy4,List.drop_drop,Bool.false_eq_true,if_false]at hT⊢;have hlen:(List.take (x % 16) (List.drop 4 s)).length=x % 16:=O3
        rw[hlen];have hcond:∀y:Prop,(¬(x / 64=1)\/8<x % 16->y)->(¬((s.getD 0 0).toNat / 64=1)\/8<(s.getD 0 0).toNat % 16\/s.length<4+(s.getD 0 0).toNat % 16)->y:=λy hy h=>by
          rw[hx0]at h;rcases h with h|h|h
          . exact hy (.inl h)
          . exact hy (.inr h)
          . exact ϟ h hn
        refine⟨λh=>?_,λh=>?_⟩
        . by_cases hb:¬(x / 64=1)\/8<x % 16
          . refine Zf1 h4 (.inl ?_);rw[hx0];rcases hb with hb|hb
            . exact .inl hb
            . exact .inr (.inl hb)
          . have hs':=h.resolve_right hb;refine Zf1 h4 (.inr ?_);rw[hx0];rcases hT with hT|hT
            . exact hT.2
            . rw[hs']at hT;exact ϟ hT.1 U
        . rcases hT with hT|hT
          . exact ϟ (.inl hT.1) h
          . have:=Zyb h4 (λh2=>hcond _ id h2 |> λh3=>h (.inr h3)) (by rw[hx0];exact hT.2);rw[this,hx0,h6,h7]
  clear hT hh hT4 hR1 hR2 hR3;simp only[QR,ra];rw[Z1ig x hxb,Z1ka x hxb,Z1k9 x hxb];refine⟨λh1=>?_,λh1=>?_⟩
  . obtain⟨c,p,rfl⟩:∃c p,s'=c::p:=by
      rcases s' with _|⟨c,p⟩
      . exact ϟ rfl h1
      . exact⟨c,p,rfl⟩
    intro w1 hr;refine(Zy9 w1 b (c::p) sh' 1 O (hr.at_ 2 rfl)).mono ?_;rintro e w2 ⟨rfl,c1,c2⟩;have e5:Z4m 1 (c::p) sh'=([c],p,sh'):=by rw[Z4m,ϛ (by simp only[ϐ];omega)];rfl
    rw[e5]at c1;refine⟨[.s [c],.s p,.b sh'],rfl,by rw[e5];rfl,c2,qy2.2 ⟨c1,qy5 _⟩,qy5 _,Z8,?_⟩;simp only[QR,ra];refine⟨λh2 w' hr=>?_,λh2=>?_⟩
    . have:dec s=(mNil,1):=by
        by_cases h3:sh'=Ϡ\/¬(x / 64=1)\/8<T4.1.length
        . exact hfin.1 h3
        . rw[hfin.2 h3];have:p=[]:=by
            rcases h2 with((h2|h2)|h2)|h2
            . exact ϟ (.inl h2) h3
            . exact h2
            . exact ϟ (.inr (.inl O)) h3
            . exact ϟ (.inr (.inr O)) h3
          rw[this];rfl
      rw[this];exact Z24 1 hr.mod
    . have hd:dec s=chkd ⟨((x / 16 % 4:Nat):Int),R2.1,R3.1,T4.1,os,p⟩:=by
        rw[hfin.2 (λh3=>h2 (by
          rcases h3 with h3|h3|h3
          . exact .inl (.inl (.inl h3))
          . exact .inl (.inr O)
          . exact .inr O))]
        simp only[finM];rw[ϛ (λh3=>h2 (.inl (.inl (.inr h3))))]
      refine⟨[.i (chk ⟨((x / 16 % 4:Nat):Int),R2.1,R3.1,T4.1,os,p⟩)],rfl,λ_ w' hr=>Zuk w' ⟨((x / 16 % 4:Nat):Int),R2.1,R3.1,T4.1,os,p⟩ v (hr.at_ 0 rfl) ?_ ?_ ?_,?_⟩
      . simp only[ϐ]at hlo⊢;omega
      . simp only;omega
      . simp only[ϐ]at hlo⊢;omega
      simp only[QR,ra];refine⟨λh3 w' hr=>?_,λh3 w' hr=>?_⟩
      . rw[hd,Zpx h3];exact Z24 _ hr.mod
      . rw[hd,Zpw (qy9.1 h3)];exact⟨v,rfl,hr.at_ 0 rfl,hfr1,hr.mod⟩
  . have hs':=qy9.1 h1;subst hs';refine⟨λh2 w' hr=>?_,λh2=>?_⟩
    . rw[hfin.1 (by
        rcases h2 with(h2|h2)|h2
        . exact .inl h2
        . exact .inr (.inl O)
        . exact .inr (.inr O))]
      exact Z24 1 hr.mod
    . have hd:dec s=chkd ⟨((x / 16 % 4:Nat):Int),R2.1,R3.1,T4.1,os,[]⟩:=hfin.2 (λh3=>h2 (by
          rcases h3 with h3|h3|h3
          . exact .inl (.inl h3)
          . exact .inl (.inr O)
          . exact .inr O))
      refine⟨[.i (chk ⟨((x / 16 % 4:Nat):Int),R2.1,R3.1,T4.1,os,[]⟩)],rfl,λ_ w' hr=>Zuk w' ⟨((x / 16 % 4:Nat):Int),R2.1,R3.1,T4.1,os,[]⟩ v (hr.at_ 0 rfl) ?_ ?_ ?_,?_⟩
      . simp only[ϑ]at hlo⊢;omega
      . simp only;omega
      . simp
      simp only[QR,ra];refine⟨λh3 w' hr=>?_,λh3 w' hr=>?_⟩
      . rw[hd,Zpx h3];exact Z24 _ hr.mod
      . rw[hd,Zpw (qy9.1 h3)];exact⟨v,rfl,hr.at_ 0 rfl,hfr1,hr.mod⟩
