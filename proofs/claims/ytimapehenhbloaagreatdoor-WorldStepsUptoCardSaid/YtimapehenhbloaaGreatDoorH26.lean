/- By an AI agent. -/
import Derived.Test.YtimapehenhbloaaGreatDoorH25
set_option linter.all false
set_option maxHeartbeats 20000000
set_option maxRecDepth 100000
open Nat renaming reduceAdd→ra
open List renaming mem_filter→ϐ,mem_append_left→ϒ,mem_map→ϔ,take_append_drop→ϕ,pairwise_cons→ϖ,length_filter_le→ϗ,pairwise_append→Ϙ,mem_append_right→ϙ,filter_cons→Ϛ,mem_cons→Ϝ,mem_iff_getElem→Ϟ,mem_of_mem_drop→Ϣ,length_cons→ϣ,nil_append→ϥ,append_assoc→Ϧ,Sublist→ϧ,pairwise_iff_getElem→Ϩ,getElem?_append_left→ϩ,length_nil→Ϫ,foldl_cons→ϫ,filter_eq_nil_iff→Ϭ,drop_sublist→ϭ,getElem_mem→ϯ,mem_flatMap→ϱ,mem_of_mem_take→ϲ,getElem?_append_right→ϳ,mem_or_eq_of_mem_set→Ϸ,drop_eq_getElem_cons→ϸ,getElem_drop→Ϲ,cons_append→ϻ,take_length→β,append_nil→γ,drop_drop→ε,getD_cons_zero→ζ,getD_cons_succ→η,pairwise_map→μ,any_eq_false→ν,length_take→ξ,take_left'→π,drop_left'→υ,map_cons→ψ,map_nil→Γ
open Bool renaming true→ϑ,false→Ϡ,noConfusion→ϰ,or_eq_false_iff→δ
open Classical renaming byContradiction→ϓ
open Nat renaming le_trans→Ϥ,eq_zero_or_pos→θ,sub_self→ω
open Go renaming Value→Ϯ,World→χ
open Option renaming mem_toList→Ϻ,some→φ,none→Δ
namespace Go.Proofs.Y
open Go.Sx
abbrev clsS(l:List Ses):List By:=l.map (·.cl)
def Z14o{l:List Ses}:Z77 l↔(clsS l).Pairwise λa b=>Z5 a b=ϑ:=by rw[Z77,clsS,μ]
def Zlp:Option By->By->Bool
 | none,_=>ϑ
 | some c,d=>Z5 c d
def Zn0(p:Option By)(s:Ses)(l:List Ses):Zg4 p (s::l)=if ¬chkS s=0 then chkS s else if Zlp p s.cl=ϑ then Zg4 (φ s.cl) l else 4:=by cases p<;>rfl
def Zem{p:Option By}{d:By}:Zlp p d=ϑ↔∀t,p=φ t->Z5 t d=ϑ:=by cases p<;>simp[Zlp]
def Zen:∀(l:List Ses) (p:Option By),Zg4 p l=0↔(∀s∈l,chkS s=0)/\Z77 l/\∀t,p=φ t->∀s∈l,Z5 t s.cl=ϑ
 | [],p=>by simp[Zg4,Z77]
 | s::l,p=>by
  rw[Zn0];constructor
  ·intro h;split at h
   ·exact ϟ h O5
   rename_i h1;split at h
   ·rename_i h5;obtain⟨i1,i2,i3⟩:=(Zen l (φ s.cl)).1 h;refine⟨λx hx=>?_,ϖ.2 ⟨i3 _ rfl,i2⟩,λt ht x hx=>?_⟩
    ·rcases Ϝ.1 hx with rfl|hx
     ·exact qy9.1 h1
     exact i1 x hx
    have h6:=Zem.1 h5 t ht;rcases Ϝ.1 hx with rfl|hx
    ·exact h6
    exact Zf h6 (i3 _ rfl x hx)
   exact ϟ h U
  rintro⟨i1,i2,i3⟩;obtain⟨j1,j2⟩:=ϖ.1 i2;rw[ϛ (qy9.2 (i1 s (qy8 ..))),ϝ (Zem.2 λt ht=>i3 t ht s (qy8 ..))];exact(Zen l (φ s.cl)).2 ⟨λx hx=>i1 x (qy10 _ hx),j2,λt ht x hx=>by cases ht;exact j1 x hx⟩
def Z8t{l:List Ses}:Z78 l=0↔l.length<=6/\(∀s∈l,SesOk s)/\Z77 l:=by
 unfold Z78;constructor
 ·intro h;split at h
  ·exact ϟ h U
  obtain⟨a,b,-⟩:=(Zen l Δ).1 h;exact⟨O,λs hs=>Zxe.1 (a s hs),b⟩
 rintro⟨a,b,c⟩;rw[ϛ O];exact(Zen l Δ).2 ⟨λs hs=>Zxe.2 (b s hs),c,λt ht=>by cases ht⟩
structure BOk(t:Tel):Prop where
 kept:chkK t.kept=0
 wants:Zl t.wants=0
 ns:t.sess.length<=6
 ses:∀s∈t.sess,SesOk s
 sort:Z77 t.sess
 wat:Z1d t.wat=0
 has:∀w∈t.wants,hasS t.sess w.1=ϑ
 kpt:∀w∈t.wat,hasK t.kept w.2.2.1=ϑ
 next:0<=t.next/\t.next<=65535
def Z35{t:Tel}:chkB t=0↔BOk t:=by
 unfold chkB;constructor
 ·intro h;split at h
  ·exact ϟ h O5
  rename_i h1;split at h
  ·exact ϟ h O5
  rename_i h2;split at h
  ·exact ϟ h O5
  rename_i h3;split at h
  ·exact ϟ h O5
  rename_i h4;split at h
  ·exact ϟ h U
  rename_i h5;split at h
  ·exact ϟ h U
  rename_i h6;obtain⟨a,b,c⟩:=Z8t.1 (qy9.1 h3);have h5:Z1m t=Ϡ:=by simpa using h5
  simp only[Z1m,δ]at h5;exact⟨qy9.1 h1,qy9.1 h2,a,b,c,qy9.1 h4,by simpa using h5.1,by simpa using h5.2,O⟩
 intro h;have h5:Z1m t=Ϡ:=by simp only[Z1m,δ,ν];exact⟨λw hw=>by rw[h.has w hw];decide,λw hw=>by rw[h.kpt w hw];decide⟩
 have:=h.next;rw[ϛ (qy9.2 h.kept),ϛ (qy9.2 h.wants),ϛ (qy9.2 (Z8t.2 ⟨h.ns,h.ses,h.sort⟩)),ϛ (qy9.2 h.wat),ϛ (by rw[h5];decide),ϛ O]
def Zg5(l:List Ses)(c:By):idxS l c<=l.length:=ϗ _ _
variable{c:By}
def Z9z{l:List Ses}(h:hasS l c=ϑ):idxS l c<l.length/\(l.getD (idxS l c) s0).cl=c:=of_decide_eq_true h
variable{i:Nat}
def Zxf{l:List Ses}(h:i<l.length):l.getD i s0∈l:=by rw[qy1,qy7 h];exact ϯ h
def Z1fb:∀{l:List Ses} (c:By),Z77 l->l=l.filter (λs=>Z5 s.cl c)++l.filter (λs=>!Z5 s.cl c)
 | [],_,_=>rfl
 | s::l,c,h=>by
  obtain⟨h1,h2⟩:=ϖ.1 h;have ih:=Z1fb c h2;cases hs:Z5 s.cl c with
  | true =>
   rw[Ϛ,Ϛ,ϝ hs,ϛ (by rw[hs];decide),ϻ,<- ih]
  | false =>
   have e1:l.filter (λs=>Z5 s.cl c)=[]:=by rw[Ϭ];intro x hx hxc;have:=Zf (h1 x hx) hxc;rw[hs]at this;cases this
   rw[Ϛ,Ϛ,ϛ (by rw[hs];decide),ϝ (by rw[hs];rfl),e1,ϥ];rw[e1,ϥ]at ih;rw[<- ih]
def Z1k3{l:List Ses}(h:Z77 l):l.take (idxS l c)=l.filter λs=>Z5 s.cl c:=by exact(congrArg (List.take (idxS l c)) (Z1fb c h)).trans (π rfl)
def Zuq{l:List Ses}(h:Z77 l):l.drop (idxS l c)=l.filter λs=>!Z5 s.cl c:=by exact(congrArg (List.drop (idxS l c)) (Z1fb c h)).trans (υ rfl)
def Z5r{l:List Ses}(h:Z77 l):hasS l c=ϑ↔c∈clsS l:=by
 constructor
 ·intro h1;obtain⟨h2,h3⟩:=Z9z h1;exact ϔ.2 ⟨_,Zxf h2,h3⟩
 intro h1;obtain⟨s,hs,rfl⟩:=ϔ.1 h1;have h2:s∈l.drop (idxS l s.cl):=by rw[Zuq h];exact ϐ.2 ⟨hs,by rw[Zs];rfl⟩
 obtain⟨i,hi,e⟩:=Ϟ.1 h2;have hi':idxS l s.cl+i<l.length:=by simp at hi;omega
 rw[Ϲ]at e;have hlt:idxS l s.cl<l.length:=O;refine decide_eq_true ⟨hlt,?_⟩;rcases θ i with h0|h0
 ·subst h0;rw[qy1,qy7 hlt];exact congrArg Ses.cl e
 have hm:l[idxS l s.cl]∈l.drop (idxS l s.cl):=Ϟ.2 ⟨0,O3,O1⟩;rw[Zuq h]at hm;have h3:=(ϐ.1 hm).2;have h4:Z5 (l[idxS l s.cl]).cl (l[idxS l s.cl+i]).cl=ϑ:=by rw[Z77,Ϩ]at h;exact h _ _ hlt hi' O
 rw[e]at h4;rw[h4]at h3;cases h3
variable{s:Ses}
def Zp8{l:List Ses}(h:s.cl=(l.getD i s0).cl):clsS (l.set i s)=clsS l:=by
 rw[clsS,List.map_set,h];by_cases hi:i<l.length
 ·refine List.ext_getElem? λj=>?_;rw[List.getElem?_set];by_cases hij:i=j
  ·subst hij;simp[hi]
  rw[ϛ hij]
 rw[List.set_eq_of_length_le (by simpa using hi)]
def Zxg{l l':List Ses}(h:Z77 l)(e:clsS l'=clsS l):Z77 l':=by rw[Z14o]at h⊢;rw[e];exact h
def Zg6{l l':List Ses}(h:Z77 l)(e:clsS l'=clsS l):hasS l' c=hasS l c:=by rw[Bool.eq_iff_iff,Z5r h,Z5r (Zxg h e),e]
def Z1fc{l l':List Ses}(e:clsS l'=clsS l):l'.length=l.length:=by simpa using congrArg List.length e
def BOk.sess{t:Tel}(h:BOk t){l:List Ses}(e:clsS l=clsS t.sess)(ok:∀s∈l,SesOk s):BOk { t with sess:=l } :=
 ⟨h.kept,h.wants,by have:=h.ns;have:=Z1fc e;simp only;omega,ok,Zxg h.sort e,h.wat,λw hw=>by rw[Zg6 h.sort e];exact h.has w hw,h.kpt,h.next⟩
def BOk.out{t:Tel}(h:BOk t)(l:List Snt):BOk { t with out:=l }:=⟨h.kept,h.wants,h.ns,h.ses,h.sort,h.wat,h.has,h.kpt,h.next⟩
def Zgw(n:Int)(h:0<=n):0<=nx_Z n/\nx_Z n<=65535:=by unfold nx_Z;omega
def Zb9{t:Tel}(h:BOk t)(hc:hasS t.sess c=ϑ):SesOk (t.sess.getD (idxS t.sess c) s0):=h.ses _ (Zxf (Z9z hc).1)
def Zbo(on:Bool):∀(qu fl:List Fl) (next:Int) (out:List Pk),(flyR on fl qu next out).2.2.2.length<=out.length+qu.length
 | [],fl,next,out=>by simp[flyR]
 | f::q,fl,next,out=>by
  rw[flyR];split
  ·refine Ϥ (Zbo on q _ _ _) ?_;simp;omega
  simp
def Zur(s:Ses)(n p:By)(q:Int):(Z32 s n p q).1.cl=s.cl:=by unfold Z32;split;rfl;split<;>rfl
def Zp9(s:Ses)(n p:By)(q:Int):(Z32 s n p q).1.on=s.on/\(Z32 s n p q).1.clean=s.clean:=by unfold Z32;split;exact⟨rfl,rfl⟩;split<;>exact⟨rfl,rfl⟩
def Zg7(n p:By)(q:Int)(h:s.qu.length<=6):(Z32 s n p q).2.length<=7:=by
 unfold Z32;split
 ·simp
 split
 ·have:=Zbo s.on (s.qu++[(0,n,p)]) s.fl s.next [];simp only[qy11,ϣ,Ϫ]at this
  show(flyR s.on s.fl (s.qu++[(0,n,p)]) s.next []).2.2.2.length<=7
  omega
 simp
variable{n p:By}{q:Int}
def Z1fd(h:SesOk s)(hp:flE (0,n,p)=0):SesOk (Z32 s n p q).1:=by
 unfold Z32;split
 ·exact h
 split
 ·rename_i h2;have h1:∀f∈s.qu++[(0,n,p)],flE f=0/\f.1=0:=by
   intro x hx;rcases qy13.1 hx with hx|hx
   ·exact h.qu x hx
   rw[qy12.1 hx];exact⟨hp,rfl⟩
  exact(Zul (s:={ s with qu:=s.qu++[(0,n,p)] }) h.cl h.nf (by have:=h2.2;simp;omega) h.fl h1 h.next h2.1.2).1
 exact h
def Zxh{t:Tel}(h:BOk t)(hs:SesOk s):∀x∈t.sess.set i s,SesOk x:=λx hx=>by
 rcases Ϸ hx with hx|rfl
 ·exact h.ses x hx
 exact hs
def Zxi{t:Tel}{r:Rd}(h:BOk t)(hp:flE (0,n,p)=0)(hr:hasS t.sess r.1=ϑ):BOk (Z1p n p q t r)/\clsS (Z1p n p q t r).sess=clsS t.sess/\(Z1p n p q t r).out.length<=t.out.length+7:=by have hs:=Zb9 h hr;have e:clsS (t.sess.set (idxS t.sess r.1) (Z32 (t.sess.getD (idxS t.sess r.1) s0) n p (min q r.2)).1)=clsS t.sess:=Zp8 (Zur _ _ _ _);refine⟨(h.sess e (Zxh h (Z1fd hs hp))).out _,e,?_⟩;have:=Zg7 n p (min q r.2) hs.nq;simp only[Z1p,qy11,qy3];omega
def Zba{n p:By}{q:Int}(hp:flE (0,n,p)=0):∀(rs:List Rd) {t:Tel},BOk t->(∀r∈rs,hasS t.sess r.1=ϑ) -> BOk (rs.foldl (Z1p n p q) t)/\clsS (rs.foldl (Z1p n p q) t).sess=clsS t.sess/\(rs.foldl (Z1p n p q) t).out.length<=t.out.length+7*rs.length /\ (rs.foldl (Z1p n p q) t).kept=t.kept/\(rs.foldl (Z1p n p q) t).wants=t.wants/\(rs.foldl (Z1p n p q) t).wat=t.wat/\(rs.foldl (Z1p n p q) t).next=t.next
 | [],t,h,_=>⟨h,rfl,O1,rfl,rfl,rfl,rfl⟩
 | r::rs,t,h,hr=>by obtain⟨a,b,c⟩:=Zxi (q:=q) h hp (hr r (qy8 ..));obtain⟨a',b',c',d'⟩:=Zba hp rs a (λx hx=>by rw[Zg6 h.sort b];exact hr x (qy10 _ hx));refine⟨a',b'.trans b,?_,d'⟩;simp only[ϫ,ϣ]at c'⊢;omega
def Z6o{t:Tel}(h:BOk t)(n:By):∀r∈rdOf n t.wants,hasS t.sess r.1=ϑ:=λr hr=>by obtain⟨x,hx,-,e,-⟩:=Zp7 h.wants hr;rw[<- e];exact h.has x hx
def watN{l:List Wat}(h:Z1d l=0):okN l:=λx hx=>((Z17.1 h).2.1 x hx).2
def Z1fe{l:List Wat}(n:By)(h:Z1d l=0):Z3j n l=advL 1 n l:=by
 have h1:=watN h;conv=>lhs;rw[<- Z19w (n:=n) h1]
 rw[Z19v h1];rfl
def Z19x{l:List Wat}(h:Z1d l=0):Z1d (Z3j n l)=0:=by rw[Z1fe n h];exact Z1f7 h
def Z19y{l:List Wat}{w:Wat}(h:w∈Z3j n l):∃x∈l,x.1=w.1/\x.2.1=w.2.1/\x.2.2.1=w.2.2.1:=by obtain⟨x,hx,rfl⟩:=ϔ.1 h;refine⟨x,hx,?_⟩;unfold Z5o;split<;>exact⟨rfl,rfl,rfl⟩
def Zxj(p:By):∀(l:List Wat) (t:Tel),0<=t.next/\t.next<=65535->(l.foldl (Z4s p) t).kept=t.kept/\(l.foldl (Z4s p) t).wants=t.wants/\(l.foldl (Z4s p) t).sess=t.sess/\(l.foldl (Z4s p) t).wat=t.wat/\(0<=(l.foldl (Z4s p) t).next/\(l.foldl (Z4s p) t).next<=65535)/\(l.foldl (Z4s p) t).out.length=t.out.length+l.length
 | [],t,h=>⟨rfl,rfl,rfl,rfl,h,rfl⟩
 | w::l,t,h=>by obtain⟨a,b,c,d,e,f⟩:=Zxj p l (Z4s p t w) (Zgw _ h.1);refine⟨a,b,c,d,e,?_⟩;rw[ϫ,f];simp[Z4s];omega
def Zgx:∀(l:List Wat) (t:Tel),0<=t.next/\t.next<=65535->(l.foldl Zaq t).kept=t.kept/\(l.foldl Zaq t).wants=t.wants/\(l.foldl Zaq t).sess=t.sess/\(l.foldl Zaq t).wat=t.wat/\(0<=(l.foldl Zaq t).next/\(l.foldl Zaq t).next<=65535)/\(l.foldl Zaq t).out.length=t.out.length+l.length
 | [],t,h=>⟨rfl,rfl,rfl,rfl,h,rfl⟩
 | w::l,t,h=>by obtain⟨a,b,c,d,e,f⟩:=Zgx l (Zaq t w) (Zgw _ h.1);refine⟨a,b,c,d,e,?_⟩;rw[ϫ,f];simp[Zaq];omega
def Zcz(n:By){l:List Wat}(h:Z1d l=0):(Z3x n l).length<=12:=by have:=(Z17.1 h).1;have h2:(l.filter λw=>decide (w.2.2.1=n)).length<=l.length:=ϗ _ _;rw[Z3x,qy3];omega
def Zxk{t:Tel}(h:BOk t)(hp:flE (0,n,p)=0):BOk (Z6n n p q t)/\clsS (Z6n n p q t).sess=clsS t.sess/\(Z6n n p q t).kept=t.kept/\(Z6n n p q t).wants=t.wants/\(Z6n n p q t).out.length<=t.out.length+152:=by obtain⟨a,b,c,d1,d2,d3,d4⟩:=Zba (q:=q) hp (rdOf n t.wants) h (Z6o h n);have hl:=Z14n n h.wants;have hlt:=Zcz n a.wat;obtain⟨e1,e2,e3,e4,e5,e6⟩:=Zxj p (Z3x n (Z7m n p q t).wat) { Z7m n p q t with wat:=Z3j n (Z7m n p q t).wat } a.next;unfold Z6n;exact⟨⟨by rw[e1];exact a.kept,by rw[e2];exact a.wants,by rw[e3];exact a.ns,by rw[e3];exact a.ses,by rw[e3];exact a.sort,by rw[e4];exact Z19x a.wat,λw hw=>by rw[e2]at hw;rw[e3];exact a.has w hw,λw hw=>(by rw[e4]at hw;rw[e1];obtain⟨x,hx,-,-,e⟩:=Z19y hw;rw[<- e];exact a.kpt x hx),e5⟩,by rw[e3];exact b,by rw[e1];exact d1,by rw[e2];exact d2,by rw[e6];simp only[Z7m]at hlt⊢;omega⟩
def Zxl{l:List Kp}(h:Z9q l):hasK l n=ϑ↔∃k∈l,k.1=n:=by
 constructor
 ·intro h1;obtain⟨h2,h3⟩:=of_decide_eq_true h1;refine⟨_,?_,h3⟩;rw[qy1,qy7 h2];exact ϯ h2
 exact Z1f9 h
def Zrz{l:List Kp}(h:chkK l=0):Z9q l:=(Z11.1 h).2.2
def Zxm{l:List Kp}{m:By}(h:chkK l=0)(hn:chkT n Ϡ=0)(he:(rawK l n p).2=0)(hm:m≠n\/p≠[])(hk:hasK l m=ϑ):hasK (rawK l n p).1 m=ϑ:=by
 have hs:=Zrz h;have hs':=Zrz (Zup h hn he);obtain⟨k,hkm,rfl⟩:=(Zxl hs).1 hk;rw[Zxl hs',(Z14m h he).1];by_cases e:k.1=n
 ·have hp:=hm.resolve_left (λh=>h e);refine⟨_,ϒ _ (ϙ _ (by rw[newX,ϛ hp];exact qy12.2 rfl)),e.symm⟩
 cases h1:Z5 k.1 n with
 | true=>exact⟨k,ϒ _ (ϒ _ (ϐ.2 ⟨hkm,h1⟩)),rfl⟩
 | false =>
  rcases Z15.1 h1 with h2|h2
  ·exact⟨k,ϙ _ (ϐ.2 ⟨hkm,h2⟩),rfl⟩
  exact ϟ h2.symm e
def Zs0{l:List Wat}{p:Wat->Bool}(h:Z1d l=0):Z1d (l.filter p)=0:=by obtain⟨a,b,c⟩:=Z17.1 h;exact Z17.2 ⟨Ϥ (ϗ _ _) a,λx hx=>b x (ϐ.1 hx).1,c.filter _⟩
def Zka{l:List Kp}{p:Kp->Bool}(h:Zl l=0):Zl (l.filter p)=0:=by obtain⟨a,b,c⟩:=Z1v.1 h;exact Z1v.2 ⟨Ϥ (ϗ _ _) a,λx hx=>b x (ϐ.1 hx).1,c.filter _⟩
def Z14p{l:List Wat}(p:Wat->Bool)(h:Z1d l=0):(l.filter p).length<=12:=Ϥ (ϗ _ _) (Z17.1 h).1
def Z4w{t:Tel}(h:BOk t)(hn:chkT n Ϡ=0):BOk (Z13 n p t).1/\(Z13 n p t).1.sess=t.sess/\(Z13 n p t).1.wants=t.wants/\(Z13 n p t).1.out.length<=t.out.length+12:=by
 unfold Z13;split
 ·exact⟨h,rfl,rfl,O1⟩
 rename_i h1;have h1:=qy9.1 h1;split
 ·rename_i h2;exact⟨⟨Zup h.kept hn h1,h.wants,h.ns,h.ses,h.sort,h.wat,h.has,λw hw=>Zxm h.kept hn h1 (.inr h2) (h.kpt w hw),h.next⟩,rfl,rfl,O1⟩
 rename_i h2;obtain⟨e1,e2,e3,e4,e5,e6⟩:=Zgx (t.wat.filter (ofT n)) { t with kept:=(rawK t.kept n p).1 } h.next;have hl:=Z14p (ofT n) h.wat;refine⟨⟨by simp only[e1];exact Zup h.kept hn h1,by simp only[e2];exact h.wants,by simp only[e3];exact h.ns,by simp only[e3];exact h.ses,by simp only[e3];exact h.sort,Zs0 h.wat,λw hw=>?_,λw hw=>?_,e5⟩,e3,e2,?_⟩
 ·simp only[e2]at hw;simp only[e3];exact h.has w hw
 ·have hw':=ϐ.1 hw;simp only[e1];refine Zxm h.kept hn h1 (.inl λe=>?_) (h.kpt w hw'.1);have:=hw'.2;rw[ofT,decide_eq_true e]at this;cases this
 simp only[e6];omega
def Za0{t:Tel}(h:BOk t)(c:By):BOk (Z4i c t)/\(Z4i c t).out=t.out:=by
 unfold Z4i;split
 ·rename_i h1;obtain⟨hi,hc⟩:=Z9z h1;split
  ·refine⟨⟨h.kept,Zka h.wants,by have:=h.ns;simp[Zmy];omega,λs hs=>?_,?_,h.wat,λw hw=>?_,h.kpt,h.next⟩,rfl⟩
   ·rcases qy13.1 hs with hs|hs
    ·exact h.ses s (ϲ hs)
    exact h.ses s (Ϣ hs)
   ·have:(t.sess.take (idxS t.sess c)++t.sess.drop (idxS t.sess c+1)).Sublist t.sess:=by
     conv=>rhs;rw[<- ϕ (idxS t.sess c) t.sess]
     refine ϧ.append (ϧ.refl _) ?_;rw[<- ε];exact ϭ _ _
    exact h.sort.sublist this
   obtain⟨hw1,hw2⟩:=ϐ.1 hw;have hw2:¬w.1=c:=by simpa using hw2
   have hh:=(Z5r h.sort).1 (h.has w hw1);obtain⟨s,hs,e⟩:=ϔ.1 hh;have hsub:(t.sess.take (idxS t.sess c)++t.sess.drop (idxS t.sess c+1)).Sublist t.sess:=by
    conv=>rhs;rw[<- ϕ (idxS t.sess c) t.sess]
    refine ϧ.append (ϧ.refl _) ?_;rw[<- ε];exact ϭ _ _
   refine(Z5r (h.sort.sublist hsub)).2 (ϔ.2 ⟨s,?_,e⟩);have hs':=hs;rw[<- ϕ (idxS t.sess c) t.sess]at hs';rcases qy13.1 hs' with hs' | hs'
   ·exact ϒ _ hs'
   refine ϙ _ ?_;rw[ϸ hi]at hs';rcases Ϝ.1 hs' with hs' | hs'
   ·exfalso;rw[qy1,qy7 hi]at hc;have hc:=hc;rw[<- hs']at hc;exact hw2 (e.symm.trans hc)
   exact hs'
  have e:clsS (t.sess.set (idxS t.sess c) (goR (t.sess.getD (idxS t.sess c) s0)))=clsS t.sess:=Zp8 rfl;exact⟨h.sess e (Zxh h (Z1k2 (Zb9 h h1)).1),rfl⟩
 exact⟨h,rfl⟩
def Zbp{l:List Ses}(h:hasS l c=ϑ):insS l c=l:=by rw[insS,ϝ h]
def Zpa{l:List Ses}(h:¬hasS l c=ϑ)(s:Ses):(insS l c).set (idxS l c) s=l.take (idxS l c)++[s]++l.drop (idxS l c)/\(insS l c).getD (idxS l c) s0=⟨[],Ϡ,ϑ,[],[],0⟩/\idxS l c<(insS l c).length/\(insS l c).length=l.length+1:=by have:=Zg5 l c;have hl:(l.take (idxS l c)).length=idxS l c:=O3;rw[insS,ϛ h,Ϧ];refine⟨by rw[List.set_append_right _ _ O,hl,ω,Ϧ];rfl,by rw[qy1,ϳ O,hl,ω];rfl,O3,O3⟩
def Z1k4{a:By}(h:Z5 a c=Ϡ)(hne:a≠c):Z5 c a=ϑ:=by
 rcases Z15.1 h with h|h
 ·exact h
 exact ϟ h.symm hne
def Z1hx{t:Tel}(h:BOk t)(hs:SesOk s)(hc:s.cl=c)(hn:hasS t.sess c=ϑ\/t.sess.length<6)(ws:List Kp)(hw:Zl ws=0)(hsub:∀w∈ws,w∈t.wants): BOk { t with wants:=ws,sess:=(insS t.sess c).set (idxS t.sess c) s }/\hasS ((insS t.sess c).set (idxS t.sess c) s) c=ϑ:=by
 by_cases h1:hasS t.sess c=ϑ
 ·rw[Zbp h1];obtain⟨hi,hcl⟩:=Z9z h1;have e:=Zp8 (hc.trans hcl.symm);have:=h.sess e (Zxh h hs);refine⟨⟨this.kept,hw,this.ns,this.ses,this.sort,this.wat,λw hw=>this.has w (hsub w hw),this.kpt,this.next⟩,?_⟩;rw[Zg6 h.sort e];exact h1
 obtain⟨e,-⟩:=Zpa h1 s;have hsort:Z77 (t.sess.take (idxS t.sess c)++[s]++t.sess.drop (idxS t.sess c)):=by
  have q1:∀x∈t.sess.take (idxS t.sess c),Z5 x.cl c=ϑ:=λx hx=>by rw[Z1k3 h.sort]at hx;exact(ϐ.1 hx).2
  have q2:∀x∈t.sess.drop (idxS t.sess c),Z5 c x.cl=ϑ:=λx hx=>by have hm:=Ϣ hx;rw[Zuq h.sort]at hx;refine Z1k4 (by simpa using(ϐ.1 hx).2) λe=>h1 ((Z5r h.sort).2 (ϔ.2 ⟨x,hm,e⟩))
  refine Ϙ.2 ⟨Ϙ.2 ⟨h.sort.sublist (List.take_sublist _ _),List.pairwise_singleton _ _,λa ha b hb=>by rw[qy12.1 hb,hc];exact q1 a ha⟩,h.sort.sublist (ϭ _ _),λa ha b hb=>?_⟩;rcases qy13.1 ha with ha|ha
  ·exact Zf (q1 a ha) (q2 b hb)
  rw[qy12.1 ha,hc];exact q2 b hb
 have hmem:∀x∈t.sess,x∈t.sess.take (idxS t.sess c)++[s]++t.sess.drop (idxS t.sess c):=λx hx=>by
  rw[<- ϕ (idxS t.sess c) t.sess]at hx;rcases qy13.1 hx with hx|hx
  ·exact ϒ _ (ϒ _ hx)
  exact ϙ _ hx
 rw[e];refine⟨⟨h.kept,hw,by have:=hn.resolve_left h1;have:=Zg5 t.sess c;simp;omega,λx hx=>?_,hsort,h.wat,λw hw=>(by obtain⟨x,hx,e⟩:=ϔ.1 ((Z5r h.sort).1 (h.has w (hsub w hw)));exact(Z5r hsort).2 (ϔ.2 ⟨x,hmem x hx,e⟩)),h.kpt,h.next⟩,(Z5r hsort).2 (ϔ.2 ⟨s,ϒ _ (ϙ _ (qy12.2 rfl)),hc⟩)⟩;rcases qy13.1 hx with hx|hx
 ·rcases qy13.1 hx with hx|hx
  ·exact h.ses x (ϲ hx)
  rw[qy12.1 hx];exact hs
 exact h.ses x (Ϣ hx)
def Zs1{l:List Ses}{cl:Bool}(h:Zc2 l c cl=ϑ):hasS l c=ϑ/\cl=Ϡ/\(l.getD (idxS l c) s0).clean=Ϡ:=by
 unfold Zc2 at h;simp only[Bool.and_eq_true,Bool.not_eq_true']at h;by_cases h1:hasS l c=ϑ
 ·rw[Zbp h1]at h;exact⟨h1,h.2,h.1⟩
 rw[(Zpa h1 s0).2.1]at h;exact ϟ h.1 U
def Zi9{t:Tel}(h:BOk t)(hc:Z9 c=ϑ)(cl:Bool):SesOk (Zb8 t.sess c cl)/\(Zb8 t.sess c cl).cl=c:=by
 unfold Zb8;by_cases hk:Zc2 t.sess c cl=ϑ
 ·obtain⟨h1,h2,h3⟩:=Zs1 hk;rw[ϝ hk,Zbp h1];have a:=Zb9 h h1;subst h2;exact⟨⟨a.cl,a.nf,a.nq,a.fl,a.qu,a.next,λ_=>ϰ,a.full⟩,(Z9z h1).2⟩
 rw[ϛ hk];exact⟨⟨hc,O1,O1,.nil,O1,O1,λ_ _=>⟨rfl,rfl⟩,λ_=>ϟ rfl⟩,rfl⟩
def Zkb(h:SesOk s):(Zcu s).2.length<=9:=by have h1:=Zbo ϑ s.qu s.fl s.next [];have h2:=h.nf;have h3:=h.nq;simp only[Zcu,flyS,qy11,qy3,Ϫ]at h1⊢;omega
def Zus{t:Tel}(h:BOk t)(hc:Z9 c=ϑ)(p:Pkt):BOk (Z1c c p t)/\(Z1c c p t).out.length<=t.out.length+10:=by
 unfold Z1c;split
 ·exact⟨h,O⟩
 split
 ·exact⟨h.out _,O1⟩
 rename_i h2;obtain⟨a,b⟩:=Zi9 h hc p.clean;have a':=(Z1f3 a).1;have hl:=Zkb a;refine⟨((Z1hx h a' b ?_ (if Zc2 t.sess c p.clean=ϑ then t.wants else t.wants.filter λw=>decide (¬w.1=c)) ?_ ?_).1).out _,O3⟩
 ·by_cases h3:hasS t.sess c=ϑ
  ·exact .inl h3
  refine .inr ?_;have:=h.ns;have:¬t.sess.length=6:=λe=>h2 ⟨h3,e⟩;omega
 ·split
  ·exact h.wants
  exact Zka h.wants
 intro w hw;split at hw
 ·exact hw
 exact(ϐ.1 hw).1
variable{id:Int}
def Z19z(h:SesOk s)(hon:s.on=ϑ):SesOk (Z4l s id).1:=by unfold Z4l;have hlen:(Z3u s.fl id).length<=s.fl.length:=ϗ _ _;exact(Zul (s:={ s with fl:=Z3u s.fl id }) h.cl (by have:=h.nf;simp only;omega) h.nq (Z19s h.fl) h.qu h.next (.inl hon)).1
def Zs2(id:Int)(h:SesOk s):(Z4l s id).2.length<=6:=by have h1:=Zbo s.on s.qu (Z3u s.fl id) s.next [];have h3:=h.nq;simp only[Z4l,flyS,Ϫ]at h1⊢;omega
def Z1a0{t:Tel}(h:BOk t)(p:Pkt)(h1:hasS t.sess c=ϑ)(hon:(t.sess.getD (idxS t.sess c) s0).on=ϑ):BOk (Zlo c p t)/\(Zlo c p t).out.length<=t.out.length+6:=by have hs:=Zb9 h h1;have e:clsS (t.sess.set (idxS t.sess c) (Z4l (t.sess.getD (idxS t.sess c) s0) p.id).1)=clsS t.sess:=Zp8 rfl;refine⟨(h.sess e (Zxh h (Z19z hs hon))).out _,?_⟩;have:=Zs2 p.id hs;simp only[Zlo,qy11,qy3];omega
def Z1a1{l:List Kp}{x:Kp}(h:Zl l=0)(h0:(rawW l x).2=0):∀w∈(rawW l x).1,w=x\/w∈l:=λw hw=>by
 rw[Zp1 (Z1v.1 h).2.2 h0]at hw;rcases qy13.1 hw with hw|hw
 ·rcases qy13.1 hw with hw|hw
  ·exact .inr (ϐ.1 hw).1
  exact .inl (qy12.1 hw)
 exact .inr (ϐ.1 hw).1
def Zn1(l:List Rd):Prop:=∀a∈l,chkT a.1 ϑ=0/\0<=a.2/\a.2<=1
def Z1ff{a:Rd}(hc:Z9 c=ϑ)(ha:chkT a.1 ϑ=0/\0<=a.2/\a.2<=1):Z4b (c,a.1,a.2)=0:=by unfold Z4b;have hc':=hc;rw[ϝ hc',askE,ϝ ha.1,ϝ ha.2]
def Z1fg{a:Rd}{x:List Kp×List Int}(hc:Z9 c=ϑ)(ha:chkT a.1 ϑ=0/\0<=a.2/\a.2<=1)(h:Zl x.1=0):Zl (Z34 c x a).1=0/\(∀w∈(Z34 c x a).1,w.1=c\/w∈x.1):=by
 unfold Z34;split
 ·rename_i h0;refine⟨Z1eg h (Z1ff hc ha) h0,λw hw=>?_⟩;rcases Z1a1 h h0 w hw with rfl|hw
  ·exact .inl rfl
  exact .inr hw
 exact⟨h,λw hw=>.inr hw⟩
def Zpb{c:By}(hc:Z9 c=ϑ):∀(l:List Rd) {x:List Kp×List Int},Zn1 l->Zl x.1=0->Zl (l.foldl (Z34 c) x).1=0/\(∀w∈(l.foldl (Z34 c) x).1,w.1=c\/w∈x.1)
 | [],x,_,h=>⟨h,λw hw=>.inr hw⟩
 | a::l,x,hl,h=>by
  obtain⟨h1,h2⟩:=Z1fg hc (hl a (qy8 ..)) h;obtain⟨h3,h4⟩:=Zpb hc l (λy hy=>hl y (qy10 _ hy)) h1;refine⟨h3,λw hw=>?_⟩;rcases h4 w hw with h5|h5
  ·exact .inl h5
  exact h2 w h5
def Zkc(c:By){kept:List Kp}(h:chkK kept=0):∀(l:List Rd) (m:List Int),(Z3y c kept l m).length<=16*l.length
 | [],_=>by simp[Z3y]
 | _::_,[]=>by simp[Z3y]
 | a::l,q::m=>by
  have ih:=Zkc c h l m;have h1:(Zln c kept a q).length<=16:=by
   unfold Zln;split
   ·simp
   rw[qy3];exact Ϥ (ϗ _ _) (Z11.1 h).1
  rw[Z3y,qy11,ϣ];omega
def Zpc{t:Tel}(h:BOk t)(hc:Z9 c=ϑ)(p:Pkt)(ha:Zn1 p.asks)(h1:hasS t.sess c=ϑ)(hl:p.asks.length<=5):BOk (Z2f c p t)/\(Z2f c p t).out.length<=t.out.length+81:=by
 obtain⟨a,b⟩:=Zpb hc p.asks (x:=(t.wants,[])) ha h.wants;refine⟨⟨h.kept,a,h.ns,h.ses,h.sort,h.wat,λw hw=>?_,h.kpt,h.next⟩,by have:=Zkc c h.kept p.asks (Zhl c t.wants p.asks).2;simp only[Z2f,qy11,ϣ,Ϫ];omega⟩;rcases b w hw with h2|h2
 ·rw[h2];exact h1
 exact h.has w h2
def Zkd{t:Tel}(h:BOk t)(c:By)(p:Pkt):BOk (Z1g c p t)/\(Z1g c p t).out.length<=t.out.length+1 :=
 ⟨⟨h.kept,Zka h.wants,h.ns,h.ses,h.sort,h.wat,λw hw=>h.has w (ϐ.1 hw).1,h.kpt,h.next⟩,by simp[Z1g]⟩
def Zut{t:Tel}(h:BOk t)(c:By)(p:Pkt)(hp:flE (0,p.topic,p.payload)=0):BOk (Z2t c p t)/\clsS (Z2t c p t).sess=clsS t.sess/\(Z2t c p t).out.length<=t.out.length+165:=by
 have hn:chkT p.topic Ϡ=0:=by
  unfold flE at hp;split at hp
  ·assumption
  exact ϟ hp O5
 obtain⟨t1,e1,h1,l1,s1⟩:∃t1:Tel,t1=(if p.qos=1 then { t with out:=t.out++[toC c { pD_Q 4 with id:=p.id }] }else t)/\BOk t1/\t1.out.length<=t.out.length+1/\t1.sess=t.sess:=by
  refine⟨_,rfl,?_⟩;split
  ·exact⟨h.out _,O1,rfl⟩
  exact⟨h,O,rfl⟩
 obtain⟨t2,e2,h2,l2,s2⟩:∃t2:Tel,t2=(if p.retain=ϑ then(Z13 p.topic p.payload t1).1 else t1)/\BOk t2/\t2.out.length<=t1.out.length+12/\t2.sess=t1.sess:=by
  refine⟨_,rfl,?_⟩;split
  ·obtain⟨a,b,-,d⟩:=Z4w (p:=p.payload) h1 hn;exact⟨a,d,b⟩
  exact⟨h1,O,rfl⟩
 have e:Z2t c p t=Z6n p.topic p.payload p.qos t2:=by rw[e2,e1];rfl
 obtain⟨a,b,-,-,d⟩:=Zxk (q:=p.qos) h2 hp;rw[e];refine⟨a,?_,O⟩;rw[b,s2,s1]
def Zg8{p:Pkt}(h:chkP p=0):Z2b p=0/\(p.kind=3->pubE p=0)/\(idB p=ϑ->1<=p.id/\p.id<=65535)/\Z7l (Z1l p)=ϑ:=by
 unfold chkP at h;split at h
 ·split at h
  ·rename_i h4;split at h
   ·rename_i h1;exact ϟ h h1.2
   rename_i h1;split at h
   ·exact ϟ h U
   rename_i h2;exact⟨h,λh3=>ϓ λh4=>h1 ⟨h3,h4⟩,λh3=>ϓ λh4=>h2 ⟨h3,h4⟩,h4⟩
  exact ϟ h U
 exact ϟ h U
def Zxn{p:Pkt}(h:pubE p=0):chkT p.topic Ϡ=0/\p.payload.length<=200/\0<=p.qos/\p.qos<=1/\flE (0,p.topic,p.payload)=0:=by
 unfold pubE at h;split at h
 ·rename_i h1;split at h
  ·exact ϟ h U
  rename_i h2;split at h
  ·rename_i h3;refine⟨h1,O,h3.1,h3.2,?_⟩;rw[flE,ϝ h1,ϛ h2]
  exact ϟ h U
 exact ϟ h O5
def Zn2:∀{l:List Rd},Z3v 8 l=0->Zn1 l
 | [],_=>λa ha=>ϟ ha O1
 | a::l,h=>by
  unfold Z3v at h;simp only[ϝ]at h;split at h
  ·rename_i h1;intro x hx;rcases Ϝ.1 hx with rfl|hx
   ·unfold askE at h1;split at h1
    ·rename_i h2;split at h1
     ·rename_i h3;exact⟨h2,h3⟩
     exact ϟ h1 U
    exact ϟ h1 O5
   exact Zn2 h x hx
  exact ϟ h O5
def Zxo{n:Nat}(h:Zo n=0):1<=n/\n<=5:=by
 unfold Zo at h;split at h
 ·exact ϟ h U
 split at h
 ·exact ϟ h U
 omega
def Zs3{p:Pkt}(h:chkP p=0)(hk:p.kind=8):Zn1 p.asks/\1<=p.asks.length/\p.asks.length<=5:=by
 have h1:=(Zg8 h).1;unfold Z2b at h1;rw[ϛ O,ϛ O,ϛ O,ϝ (.inl hk),Zjt]at h1;split at h1
 ·rename_i h2;rw[hk]at h1;exact⟨Zn2 h1,Zxo h2⟩
 exact ϟ h1 O5
def Zbq{t:Tel}(h:BOk t)(hc:Z9 c=ϑ){p:Pkt}(hp:chkP p=0):BOk (Zx c p t)/\(Zx c p t).out.length<=t.out.length+200:=by
 unfold Zx;split
 ·exact⟨h,O⟩
 rename_i h1;split
 ·have:=Zus h hc p;exact⟨this.1,O⟩
 rename_i h2;have h3:hasS t.sess c=ϑ/\(t.sess.getD (idxS t.sess c) s0).on=ϑ:=⟨ϓ λh4=>h1 ⟨h2,.inl h4⟩,ϓ λh4=>h1 ⟨h2,.inr h4⟩⟩
 split
 ·rename_i h4;have:=Zut h c p (Zxn ((Zg8 hp).2.1 h4)).2.2.2.2;exact⟨this.1,O⟩
 split
 ·have:=Z1a0 h p h3.1 h3.2;exact⟨this.1,O⟩
 split
 ·rename_i h4;obtain⟨a,-,b⟩:=Zs3 hp h4;have:=Zpc h hc p a h3.1 b;exact⟨this.1,O⟩
 split
 ·have:=Zkd h c p;exact⟨this.1,O⟩
 split
 ·exact⟨h.out _,O1⟩
 split
 ·have:=Za0 h c;exact⟨this.1,by rw[this.2];omega⟩
 exact⟨h,O⟩
def Zeo{os:List Opt}(h:(Z1f os).2=0):chkT (Z1f os).1 Ϡ=0:=by
 unfold Z1f at h⊢;split at h
 ·exact ϟ h U
 split at h
 ·split at h
  ·exact ϟ h U
  rename_i h1 h2 h3;rw[ϛ h1,ϝ h2,ϛ h3];exact h2
 rename_i h1 h2;exact ϟ h h2
variable{m:Msg}
def Z1fh{t:Tel}(h:BOk t){n:Int}(hn:0<=n/\n<=9)(hm:m.tok.length<=8)(a:Msg){name:By}(hc:chkT name Ϡ=0):BOk (getB n m a name t).1/\(getB n m a name t).1.out=t.out:=by
 unfold getB;split
 ·exact⟨h,rfl⟩
 rename_i h0;have h0:=qy9.1 h0;split
 ·split
  ·rename_i h2;refine⟨⟨h.kept,h.wants,h.ns,h.ses,h.sort,?_,h.has,λw hw=>?_,h.next⟩,rfl⟩
   ·unfold Z49 at h2⊢;simp only at h2⊢;split at h2
    ·exact ϟ h2 U
    rename_i h3;rw[ϛ h3];refine Z1f4 h.wat ?_ O;unfold Z4x;rw[ϝ hn,ϛ O,hc]
   unfold Z49 at h2 hw;split at h2
   ·exact ϟ h2 U
   rename_i h3;rw[ϛ h3]at hw;rcases qy13.1 hw with hw|hw
   ·exact h.kpt w (ϐ.1 hw).1
   rw[qy12.1 hw];exact h0
  exact⟨h,rfl⟩
 split
 ·exact⟨⟨h.kept,h.wants,h.ns,h.ses,h.sort,Zs0 h.wat,h.has,λw hw=>h.kpt w (ϐ.1 hw).1,h.next⟩,rfl⟩
 exact⟨h,rfl⟩
def Z1hy{t:Tel}(h:BOk t){n:Int}(hn:0<=n/\n<=9)(hm:chk m=0)(a:Msg):BOk (doB n m a t).1/\(doB n m a t).1.out.length<=t.out.length+164:=by
 obtain⟨-,-,⟨m1,-,m2⟩,-⟩:=Zac.1 hm;unfold doB;split
 ·exact⟨h,O1⟩
 rename_i h1;have hp:=Zeo (qy9.1 h1);split
 ·obtain⟨x,y⟩:=Z1fh h hn m1 a hp;exact⟨x,by rw[y];omega⟩
 split
 ·split
  ·obtain⟨k1,k2,k3,k4⟩:=Z4w (p:=m.pay) h hp;have hf:flE (0,(Z1f m.opts).1,m.pay)=0:=by rw[flE,ϝ hp,ϛ O4]
   obtain⟨t1,t2,t3,t4,t5⟩:=Zxk (q:=1) k1 hf;exact⟨t1,O4⟩
  exact⟨h,O1⟩
 split
 ·obtain⟨k1,k2,k3,k4⟩:=Z4w (p:=[]) h hp;exact⟨k1,O4⟩
 exact⟨h,O1⟩
def Zuu{t:Tel}(h:BOk t){n:Int}(hn:0<=n/\n<=9)(hm:chk m=0):BOk (Z3n n m t)/\(Z3n n m t).out.length<=t.out.length+165:=by
 have h':BOk { t with next:=if m.kind=1 then nx_Z t.next else t.next,out:=t.out++[toP n (Z2a m t.next)] }:=by
  refine⟨h.kept,h.wants,h.ns,h.ses,h.sort,h.wat,h.has,h.kpt,?_⟩;split
  ·exact Zgw _ h.next.1
  exact h.next
 obtain⟨a,b⟩:=Z1hy h' hn hm (Z2a m t.next);refine⟨a.out _,?_⟩;simp only[qy11]at b;simp only[Z3n,List.length_set];omega
def Zke{t:Tel}(h:BOk t){n:Int}(hn:0<=n/\n<=9)(hm:chk m=0):BOk (Zu n m t)/\(Zu n m t).out.length<=t.out.length+200:=by
 unfold Zu;split
 ·exact⟨h.out _,O1⟩
 split
 ·have:=Zuu h hn hm;exact⟨this.1,O⟩
 exact⟨h,O⟩
def Z1a2(s:Snt):Prop:=(s.client=[]/\chk s.msg=0/\s.pk=pD_Q 0)\/(¬s.client=[]/\chkP s.pk=0/\s.msg=mNil/\s.peer=0)
def Z27(l:List Snt):Prop:=∀s∈l,Z1a2 s
def Z27.nil:Z27 []:=λs hs=>ϟ hs O1
def Z27.app{a b:List Snt}(ha:Z27 a)(hb:Z27 b):Z27 (a++b):=λs hs=>(qy13.1 hs).elim (ha s) (hb s)
def Z27.one{s:Snt}(h:Z1a2 s):Z27 [s]:=λx hx=>by rw[qy12.1 hx];exact h
def Z1k5(h:Z9 c=ϑ):¬c=[]:=by rintro rfl;exact ϟ h U
def Zbb{p:Pkt}(hc:Z9 c=ϑ)(hp:chkP p=0):Z1a2 (toC c p):=.inr ⟨Z1k5 hc,hp,rfl,rfl⟩
def Zkf{n:Int}(hm:chk m=0):Z1a2 (toP n m):=.inl ⟨rfl,hm,rfl⟩
def pkOk(k:Pk):Prop:=flE (0,k.2.2.2.1,k.2.2.2.2)=0/\((k.2.1=0/\k.1=Ϡ/\k.2.2.1=0)\/(k.2.1=1/\1<=k.2.2.1/\k.2.2.1<=65535))
def Z1c5{p:Pkt}(hk:p.kind=3)(h0:p.clean=Ϡ/\p.session=Ϡ/\p.keep=0/\p.code=0/\p.client=[]/\p.asks=[]/\p.codes=[])(hf:flE (0,p.topic,p.payload)=0)(hq:(p.qos=0/\p.dup=Ϡ/\p.id=0)\/(p.qos=1/\1<=p.id/\p.id<=65535)):chkP p=0:=by
 have hc:chkT p.topic Ϡ=0/\¬200<(p.payload.length:Int):=by
  unfold flE at hf;split at hf
  ·rename_i h1;split at hf
   ·exact ϟ hf U
   exact⟨h1,O5⟩
  exact ϟ hf O5
 have hp:pubE p=0:=by
  unfold pubE;rw[ϝ hc.1,ϛ hc.2];rcases hq with⟨h1,h2,h3⟩|⟨h1,h2⟩
  ·rw[ϝ O,ϛ (by rintro⟨-,h4|h4⟩;(· rw[h2]at h4;cases h4);(· exact h4 h3))]
  rw[ϝ O,ϛ O]
 unfold chkP;have hb:Z1l p=pD_Q p.kind:=by obtain⟨a,b,c,d,e,f,g⟩:=h0;unfold Z1l;rw[ϛ O,ϛ O,ϝ hk];cases p;simp_all
 rw[ϝ (by rw[hk];decide),ϝ (by rw[Z7l,hb];exact decide_eq_true rfl),ϛ (by rintro⟨-,h⟩;exact h hp),ϛ,Z2b,ϛ O,ϛ O,ϝ hk,hp];rintro⟨h1,h2⟩;have h1:=of_decide_eq_true h1;rcases hq with⟨h3,-⟩|⟨h3,h4⟩
 ·omega
 exact h2 h4
def Z1fi{k:Pk}(h:pkOk k):chkP (pkOf k)=0:=Z1c5 rfl ⟨rfl,rfl,rfl,rfl,rfl,rfl,rfl⟩ h.1 h.2
def Zuv{l:List Pk}(hc:Z9 c=ϑ)(h:∀k∈l,pkOk k):Z27 (l.map λk=>toC c (pkOf k)):=λs hs=>by obtain⟨k,hk,rfl⟩:=ϔ.1 hs;exact Zbb hc (Z1fi (h k hk))
def Zpd(on:Bool):∀(qu fl:List Fl) (next:Int) (out:List Pk),(∀f∈qu,flE f=0)->(1<=next/\next<=65535)->(∀k∈out,pkOk k)->∀k∈(flyR on fl qu next out).2.2.2,pkOk k
 | [],fl,next,out,_,_,h=>by simpa[flyR]using h
 | f::q,fl,next,out,hq,hn,h=>by
  rw[flyR];split
  ·have hid:=Zom (fl:=fl) hn;refine Zpd on q _ _ _ (λx hx=>hq x (qy10 _ hx)) (Zlj hid).1 λk hk=>?_;rcases qy13.1 hk with hk|hk
   ·exact h k hk
   rw[qy12.1 hk];exact⟨hq f (qy8 ..),.inr ⟨rfl,hid⟩⟩
  exact h
def Z1fj(h:SesOk s)(hp:flE (0,n,p)=0):∀k∈(Z32 s n p q).2,pkOk k:=by
 unfold Z32;split
 ·intro k hk;rw[qy12.1 hk];exact⟨hp,.inl ⟨rfl,rfl,rfl⟩⟩
 split
 ·refine Zpd _ _ _ _ _ (λf hf=>?_) h.next O1;rcases qy13.1 hf with hf|hf
  ·exact(h.qu f hf).1
  rw[qy12.1 hf];exact hp
 simp
def Z1fk(h:SesOk s):∀k∈(Zcu s).2,pkOk k:=by
 intro k hk;rcases qy13.1 hk with hk|hk
 ·obtain⟨f,hf,rfl⟩:=ϔ.1 hk;have:=h.fl.each f hf;exact⟨this.1,.inr ⟨rfl,this.2⟩⟩
 exact Zpd ϑ s.qu s.fl s.next [] (λf hf=>(h.qu f hf).1) h.next O1 k hk
def Z1fl(h:SesOk s):∀k∈(Z4l s id).2,pkOk k:=Zpd s.on s.qu (Z3u s.fl id) s.next [] (λf hf=>(h.qu f hf).1) h.next O1
def Zs4(hk:0<=m.kind/\m.kind<=3)(hc:1<=m.code/\m.code<=255)(hi:0<=m.id/\m.id<=65535)(ht:m.tok.length<=8)(hp:m.pay.length<=200)(ho:m.opts=[]\/∃v:By,v.length<=60/\m.opts=[(6,v)]):chk m=0:=by
 refine Zac.2 ⟨hk,⟨O,O,hi.1,hi.2⟩,⟨ht,(by rcases ho with h|⟨v,-,h⟩<;>rw[h]<;>simp),hp⟩,?_,λh=>O⟩;rcases ho with h|⟨v,hv,h⟩
 ·rw[h];rfl
 rw[h]
 show(if(0:Int)<=6/\(6:Int)<=65535 then(if(6:Int)<0 then 4 else if 60<(v.length:Int)then 2 else optE 6 [])else 3)=0
 rw[ϝ U,ϛ U,ϛ O];rfl
def Z14q{n:Int}(h:m.opts=[]):(putM m n).opts=[(6,Z33 n)]:=by simp[putM,h,Z19i,noN,upTo,past]
def Z1a3{n:Int}:(Z33 n).length<=3:=by
 have h1:(Z33 n).length<=(numB 3 n).length:=by unfold Z33;exact(List.dropWhile_suffix _).length_le
 have h2:(numB 3 n).length=3:=by simp[numB]
 omega
def Zxp{n:Int}(hk:0<=m.kind/\m.kind<=3)(hc:1<=m.code/\m.code<=255)(hi:0<=m.id/\m.id<=65535)(ht:m.tok.length<=8)(hp:m.pay.length<=200)(ho:m.opts=[]):chk (putM m n)=0 :=
 Zs4 hk hc hi ht hp (.inr ⟨_,by have:=@Z1a3 n;omega,Z14q ho⟩)
def Z1c6{l:List Wat}(h:Z1d l=0){w:Wat}(hw:w∈l):w.2.1.length<=8/\(0<=w.2.2.2/\w.2.2.2<=16777215):=by
 obtain⟨h1,h2⟩:=(Z17.1 h).2.1 w hw;refine⟨?_,h2⟩;unfold Z4x at h1;split at h1
 ·split at h1
  ·exact ϟ h1 U
  omega
 exact ϟ h1 U
def Z1hz(hf:flE (0,n,p)=0):p.length<=200:=by
 unfold flE at hf;split at hf
 ·split at hf
  ·exact ϟ hf U
  rename_i h1;simp only at h1;omega
 exact ϟ hf O5
def Zn3{n p:By}{q:Int}(hp:flE (0,n,p)=0):∀(rs:List Rd) {t:Tel},BOk t->(∀r∈rs,hasS t.sess r.1=ϑ)->Z27 t.out->Z27 (rs.foldl (Z1p n p q) t).out
 | [],t,_,_,ho=>ho
 | r::rs,t,h,hr,ho=>by obtain⟨a,b,c⟩:=Zxi (q:=q) h hp (hr r (qy8 ..));have h0:=hr r (qy8 ..);have hs:=Zb9 h h0;refine Zn3 hp rs a (λx hx=>by rw[Zg6 h.sort b];exact hr x (qy10 _ hx)) (ho.app (Zuv ?_ (Z1fj hs hp)));have:=hs.cl;rw[(Z9z h0).2]at this;exact this
def Zn4{p:By}(hp:p.length<=200):∀(l:List Wat) {t:Tel},0<=t.next/\t.next<=65535->(∀w∈l,w.2.1.length<=8)->Z27 t.out->Z27 (l.foldl (Z4s p) t).out
 | [],t,_,_,ho=>ho
 | w::l,t,h,hl,ho=>Zn4 hp l (Zgw _ h.1) (λx hx=>hl x (qy10 _ hx)) (ho.app (.one (Zkf (Zxp O1 O1 h (hl w (qy8 ..)) hp rfl))))
def Zs5{t:Tel}(h:BOk t)(hp:flE (0,n,p)=0)(ho:Z27 t.out):Z27 (Z6n n p q t).out:=by obtain⟨a,b,c,d1,d2,d3,d4⟩:=Zba (q:=q) hp (rdOf n t.wants) h (Z6o h n);refine Zn4 (Z1hz hp) _ a.next (λw hw=>?_) (Zn3 hp _ h (Z6o h n) ho);unfold Z3x at hw;obtain⟨x,hx,rfl⟩:=ϔ.1 hw;have:=(Z1c6 a.wat (ϐ.1 hx).1).1;unfold Z5o;split<;>exact this
def Zn5:∀(l:List Wat) {t:Tel},0<=t.next/\t.next<=65535->(∀w∈l,w.2.1.length<=8)->Z27 t.out->Z27 (l.foldl Zaq t).out
 | [],t,_,_,ho=>ho
 | w::l,t,h,hl,ho=>Zn5 l (Zgw _ h.1) (λx hx=>hl x (qy10 _ hx)) (ho.app (.one (Zkf (Zs4 O1 O1 h (hl w (qy8 ..)) O1 (.inl rfl)))))
def Zkg{t:Tel}(h:BOk t)(ho:Z27 t.out):Z27 (Z13 n p t).1.out:=by
 unfold Z13;split
 ·exact ho
 split
 ·exact ho
 exact Zn5 _ h.next (λw hw=>(Z1c6 h.wat (ϐ.1 hw).1).1) ho
def Z1a4{k:Kp}(h:okK k):flE (0,k.1,k.2.1)=0:=by rw[flE,ϝ h.1,ϛ h.2.2.1]
def Zxq{c:By}(hc:Z9 c=ϑ){kept:List Kp}(h:chkK kept=0):∀(l:List Rd) (m:List Int),Z27 (Z3y c kept l m)
 | [],_=>by exact .nil
 | _::_,[]=>by exact .nil
 | a::l,q::m=>by
  rw[Z3y];refine Z27.app ?_ (Zxq hc h l m);unfold Zln;split
  ·exact .nil
  intro s hs;obtain⟨k,hk,rfl⟩:=ϔ.1 hs;exact Zbb hc (Z1c5 rfl ⟨rfl,rfl,rfl,rfl,rfl,rfl,rfl⟩ (Z1a4 ((Z11.1 h).2.1 k (ϐ.1 hk).1)) (.inl ⟨rfl,rfl,rfl⟩))
def Zn6{c:By}:∀(l:List Rd) {x:List Kp×List Int},Zn1 l->(∀q∈x.2,q=0\/q=1\/q=128)->(∀q∈(l.foldl (Z34 c) x).2,q=0\/q=1\/q=128)/\(l.foldl (Z34 c) x).2.length=x.2.length+l.length
 | [],x,_,h=>⟨h,rfl⟩
 | a::l,x,hl,h=>by
  have ha:=(hl a (qy8 ..)).2;have h1:(∀q∈(Z34 c x a).2,q=0\/q=1\/q=128)/\(Z34 c x a).2.length=x.2.length+1:=by
   unfold Z34;split
   ·refine⟨λq hq=>?_,O1⟩;rcases qy13.1 hq with hq|hq
    ·exact h q hq
    rw[qy12.1 hq];omega
   refine⟨λq hq=>?_,O1⟩;rcases qy13.1 hq with hq|hq
   ·exact h q hq
   rw[qy12.1 hq];omega
  obtain⟨h2,h3⟩:=Zn6 l (λy hy=>hl y (qy10 _ hy)) h1.1;refine⟨h2,?_⟩;rw[ϫ,h3,h1.2,ϣ];omega
def Zuw{p:Pkt}(h1:Z3i p.kind=ϑ)(h2:Z1l p=pD_Q p.kind)(h3:¬p.kind=3)(h4:1<=p.id/\p.id<=65535):chkP p=Z2b p:=by unfold chkP;rw[ϝ h1,ϝ (show Z7l (Z1l p)=ϑ by rw[Z7l,h2];exact decide_eq_true rfl),ϛ (λh=>h3 h.1),ϛ (λh=>h.2 h4)]
def Z1i0{k:Int}(hk:k=4\/k=11)(h:1<=id/\id<=65535):chkP { pD_Q k with id:=id }=0:=by
 rcases hk with rfl|rfl
 ·exact(Zuw (p:={ pD_Q 4 with id:=id }) (show Z3i 4=ϑ by decide) rfl (show ¬(4:Int)=3 by decide) h).trans rfl
 exact(Zuw (p:={ pD_Q 11 with id:=id }) (show Z3i 11=ϑ by decide) rfl (show ¬(11:Int)=3 by decide) h).trans rfl
def Z14r{cs:List Int}(h:1<=id/\id<=65535)(hn:1<=cs.length/\cs.length<=5)(hc:∀q∈cs,q=0\/q=1\/q=128):chkP { pD_Q 9 with id:=id,codes:=cs }=0:=by
 rw[Zuw (p:={ pD_Q 9 with id:=id,codes:=cs }) (show Z3i 9=ϑ by decide) rfl (show ¬(9:Int)=3 by decide) h]
 show Zc9 { pD_Q 9 with id:=id,codes:=cs }=0
 have hcnt:Zo cs.length=0:=by unfold Zo;rw[ϛ O,ϛ O]
 unfold Zc9;rw[ϝ hcnt,ϛ];simp only[Bool.not_eq_true,ν];intro q hq;rcases hc q hq with rfl|rfl|rfl<;>decide
def Zn7{code:Int}{s:Bool}(h:(code=3/\s=Ϡ)\/code=0):chkP { pD_Q 2 with code:=code,session:=s }=0:=by
 rcases h with⟨rfl,rfl⟩|rfl
 ·decide
 cases s<;>decide
def Zkh{t:Tel}(h:BOk t)(hc:Z9 c=ϑ){p:Pkt}(hp:chkP p=0)(ho:Z27 t.out):Z27 (Zx c p t).out:=by
 unfold Zx;split
 ·exact ho
 rename_i h1;split
 ·unfold Z1c;split
  ·exact ho
  split
  ·exact ho.app (.one (Zbb hc (Zn7 (.inl ⟨rfl,rfl⟩))))
  obtain⟨a,b⟩:=Zi9 h hc p.clean;exact(ho.app (.one (Zbb hc (Zn7 (.inr rfl))))).app (Zuv hc (Z1fk a))
 rename_i h2;have h3:hasS t.sess c=ϑ/\(t.sess.getD (idxS t.sess c) s0).on=ϑ:=⟨ϓ λh4=>h1 ⟨h2,.inl h4⟩,ϓ λh4=>h1 ⟨h2,.inr h4⟩⟩
 obtain⟨p1,p2,p3,-⟩:=Zg8 hp;split
 ·rename_i h4;obtain⟨q1,q2,q3,q4,hf⟩:=Zxn (p2 h4);obtain⟨t1,e1,k1,o1⟩:∃t1:Tel,t1=(if p.qos=1 then { t with out:=t.out++[toC c { pD_Q 4 with id:=p.id }] }else t)/\BOk t1/\Z27 t1.out:=by
   refine⟨_,rfl,?_⟩;split
   ·rename_i h5;exact⟨h.out _,ho.app (.one (Zbb hc (Z1i0 (.inl rfl) (p3 (decide_eq_true (.inl ⟨h4,h5⟩))))))⟩
   exact⟨h,ho⟩
  obtain⟨t2,e2,k2,o2⟩:∃t2:Tel,t2=(if p.retain=ϑ then(Z13 p.topic p.payload t1).1 else t1)/\BOk t2/\Z27 t2.out:=by
   refine⟨_,rfl,?_⟩;split
   ·exact⟨(Z4w k1 q1).1,Zkg k1 o1⟩
   exact⟨k1,o1⟩
  have e:Z2t c p t=Z6n p.topic p.payload p.qos t2:=by rw[e2,e1];rfl
  rw[e];exact Zs5 k2 hf o2
 split
 ·exact ho.app (Zuv hc (Z1fl (Zb9 h h3.1)))
 split
 ·rename_i h4;obtain⟨a,b1,b2⟩:=Zs3 hp h4;obtain⟨c1,c2⟩:=Zn6 p.asks (x:=(t.wants,[])) a O1;simp only[Ϫ,Nat.zero_add]at c2;exact(ho.app (.one (Zbb hc (Z14r (p3 (decide_eq_true O)) (by rw[c2];exact⟨b1,b2⟩) c1)))).app (Zxq hc h.kept _ _)
 split
 ·exact ho.app (.one (Zbb hc (Z1i0 (.inr rfl) (p3 (decide_eq_true O)))))
 split
 ·exact ho.app (.one (Zbb hc U))
 split
 ·rw[(Za0 h c).2];exact ho
 exact ho
def Zs6{a:Msg}(hm:chk m=0){next:Int}(hn:0<=next/\next<=65535)(ha:a=Z2a m next):(0<=a.kind/\a.kind<=3)/\(0<=a.id/\a.id<=65535)/\a.tok.length<=8/\a.pay=[]/\a.opts=[]/\a.code=133:=by
 obtain⟨-,m1,m2,-⟩:=Zac.1 hm;subst ha;unfold Z2a;split
 ·exact⟨O1,hn,m2.1,rfl,rfl,rfl⟩
 exact⟨O1,⟨m1.2.2.1,m1.2.2.2⟩,m2.1,rfl,rfl,rfl⟩
def Z1a5{t:Tel}(h:BOk t){name:By}(hk:hasK t.kept name=ϑ):(t.kept.getD (idx t.kept name) kD).2.1.length<=200:=by
 obtain⟨h1,h2⟩:=of_decide_eq_true hk;have hm:t.kept.getD (idx t.kept name) kD∈t.kept:=by rw[qy1,qy7 h1];exact ϯ h1
 have:=((Z11.1 h.kept).2.1 _ hm).2.2.1;omega
def Z1fm{t:Tel}(h:BOk t){n:Int}{a:Msg}(hm:chk m=0){next:Int}(hn:0<=next/\next<=65535)(ha:a=Z2a m next)(ho:Z27 t.out):Z27 (doB n m a t).1.out/\chk (doB n m a t).2=0:=by
 obtain⟨a1,a2,a3,a4,a5,a6⟩:=Zs6 hm hn ha;have hcode:∀code:Int,1<=code/\code<=255->chk { a with code:=code }=0:=λcode hc=>Zs4 a1 hc a2 a3 (by simp[a4]) (.inl a5);unfold doB;split
 ·exact⟨ho,hcode _ U⟩
 rename_i h1;have hp:=Zeo (qy9.1 h1);split
 ·unfold getB;split
  ·exact⟨ho,hcode _ U⟩
  rename_i h0;have hk:=Z1a5 h (qy9.1 h0);have hb:chk { a with code:=69,pay:=(t.kept.getD (idx t.kept (Z1f m.opts).1) kD).2.1 }=0:=Zs4 a1 (show(1:Int)<=69/\(69:Int)<=255 by decide) a2 a3 hk (.inl a5);split
  ·split
   ·exact⟨ho,Zxp a1 (show(1:Int)<=69/\(69:Int)<=255 by decide) a2 a3 hk a5⟩
   exact⟨ho,hb⟩
  split
  ·exact⟨ho,hb⟩
  exact⟨ho,hb⟩
 split
 ·split
  ·have k1:=(Z4w (p:=m.pay) h hp).1;have hf:flE (0,(Z1f m.opts).1,m.pay)=0:=by
    have:=(Zac.1 hm).2.2.1.2.2;rw[flE,ϝ hp,ϛ O4]
   exact⟨Zs5 k1 hf (Zkg h ho),hcode _ U⟩
  exact⟨ho,hcode _ U⟩
 split
 ·exact⟨Zkg h ho,hcode _ U⟩
 refine⟨ho,?_⟩;have:=hcode 133 U;rwa [show({ a with code:=133 })=a from by rw[<- a6]]at this
def Zs7{t:Tel}(h:BOk t){n:Int}(hm:chk m=0)(ho:Z27 t.out):Z27 (Z3n n m t).out:=by
 have h':BOk { t with next:=if m.kind=1 then nx_Z t.next else t.next,out:=t.out++[toP n (Z2a m t.next)] }:=by
  refine⟨h.kept,h.wants,h.ns,h.ses,h.sort,h.wat,h.has,h.kpt,?_⟩;split
  ·exact Zgw _ h.next.1
  exact h.next
 have hc:chk (Z2a m t.next)=0:=by obtain⟨a1,a2,a3,a4,a5,a6⟩:=Zs6 hm h.next rfl;exact Zs4 a1 O a2 a3 (by rw[a4];simp) (.inl a5)
 obtain⟨a,b⟩:=Z1fm h' hm h.next rfl (ho.app (.one (Zkf hc)));intro s hs;rcases Ϸ hs with hs|rfl
 ·exact a s hs
 exact Zkf b
def Zs8{t:Tel}(h:BOk t){n:Int}(hm:chk m=0)(ho:Z27 t.out):Z27 (Zu n m t).out:=by
 unfold Zu;split
 ·rename_i h1;obtain⟨-,m1,-⟩:=Zac.1 hm;refine ho.app (.one (Zkf (Zac.2 ⟨O1,⟨O1,O1,m1.2.2⟩,O1,rfl,λ_=>⟨rfl,rfl,rfl⟩⟩)))
 split
 ·exact Zs7 h hm ho
 exact ho
def rstD:Ky:=([],[])
def sortR(l:List Ky):Prop:=l.Pairwise λa b=>Z5 a.1 b.1=ϑ
def idxR(l:List Ky)(c:By):Nat:=(l.filter λr=>Z5 r.1 c).length
def hasR(l:List Ky)(c:By):Bool:=decide (idxR l c<l.length/\(l.getD (idxR l c) rstD).1=c)
def Zlq:Option By->List Ky->Int
 | _,[]=>0
 | p,r::l=>if ¬Z9 r.1=ϑ\/r.2=[]then 1 else if 600<(r.2.length:Int)then 2 else if Zlp p r.1=ϑ then Zlq (φ r.1) l else 4
def chkR(l:List Ky):Int:=Zlq Δ l
structure Evt where
 client:List UInt8
 peer:Int
 bytes:List UInt8
def Z47(e:Evt):Int:=if ¬e.client=[]/\¬Z9 e.client=ϑ then 1 else if(e.client=[]/\¬(0<=e.peer/\e.peer<=9))\/(¬e.client=[]/\¬e.peer=0)then 3 else 0
structure ROk(l:List Ky):Prop where
 each:∀r∈l,Z9 r.1=ϑ/\¬r.2=[]/\r.2.length<=600
 sort:sortR l
def Zki:∀(l:List Ky) (p:Option By),Zlq p l=0↔(∀r∈l,Z9 r.1=ϑ/\¬r.2=[]/\r.2.length<=600)/\sortR l/\∀t,p=φ t->∀r∈l,Z5 t r.1=ϑ
 | [],p=>by simp[Zlq,sortR]
 | r::l,p=>by
  rw[Zlq];constructor
  ·intro h;split at h
   ·exact ϟ h U
   rename_i h1;split at h
   ·exact ϟ h U
   rename_i h2;split at h
   ·rename_i h3;obtain⟨i1,i2,i3⟩:=(Zki l (φ r.1)).1 h;refine⟨λx hx=>?_,ϖ.2 ⟨i3 _ rfl,i2⟩,λt ht x hx=>?_⟩
    ·rcases Ϝ.1 hx with rfl|hx
     ·exact⟨ϓ λh4=>h1 (.inl h4),λh4=>h1 (.inr h4),O⟩
     exact i1 x hx
    have h4:=Zem.1 h3 t ht;rcases Ϝ.1 hx with rfl|hx
    ·exact h4
    exact Zf h4 (i3 _ rfl x hx)
   exact ϟ h U
  rintro⟨i1,i2,i3⟩;obtain⟨j1,j2⟩:=ϖ.1 i2;obtain⟨k1,k2,k3⟩:=i1 r (qy8 ..);rw[ϛ (λh=>h.elim (λh=>h k1) k2),ϛ O,ϝ (Zem.2 λt ht=>i3 t ht r (qy8 ..))];exact(Zki l (φ r.1)).2 ⟨λx hx=>i1 x (qy10 _ hx),j2,λt ht x hx=>by cases ht;exact j1 x hx⟩
def Zep{l:List Ky}:chkR l=0↔ROk l:=by rw[chkR,Zki];exact⟨λ⟨a,b,_⟩=>⟨a,b⟩,λh=>⟨h.each,h.sort,λt ht=>by cases ht⟩⟩
def takW(l:List Ky)(c:By):By×List Ky:=if hasR l c=ϑ then((l.getD (idxR l c) rstD).2,l.take (idxR l c)++l.drop (idxR l c+1))else([],l)
def Zc3(l:List Ky)(c s:By):List Ky:=if s=[]then l else l.take (idxR l c)++[(c,s)]++l.drop (idxR l c)
def Z1fn:∀{l:List Ky} (c:By),sortR l->l=l.filter (λs=>Z5 s.1 c)++l.filter (λs=>!Z5 s.1 c)
 | [],_,_=>rfl
 | s::l,c,h=>by
  obtain⟨h1,h2⟩:=ϖ.1 h;have ih:=Z1fn c h2;cases hs:Z5 s.1 c with
  | true =>
   rw[Ϛ,Ϛ,ϝ hs,ϛ (by rw[hs];decide),ϻ,<- ih]
  | false =>
   have e1:l.filter (λs=>Z5 s.1 c)=[]:=by rw[Ϭ];intro x hx hxc;have:=Zf (h1 x hx) hxc;rw[hs]at this;cases this
   rw[Ϛ,Ϛ,ϛ (by rw[hs];decide),ϝ (by rw[hs];rfl),e1,ϥ];rw[e1,ϥ]at ih;rw[<- ih]
def Zxr{l:List Ky}(h:sortR l):l.take (idxR l c)=l.filter λs=>Z5 s.1 c :=
 (congrArg (List.take (idxR l c)) (Z1fn c h)).trans (π rfl)
def Zpe{l:List Ky}(h:sortR l):l.drop (idxR l c)=l.filter λs=>!Z5 s.1 c :=
 (congrArg (List.drop (idxR l c)) (Z1fn c h)).trans (υ rfl)
def Zia{l:List Ky}(h:ROk l)(c:By):ROk (takW l c).2/\(∀r∈(takW l c).2,¬r.1=c)/\(takW l c).1.length<=600:=by
 have hno:∀r∈l,r.1=c->hasR l c=ϑ/\l.getD (idxR l c) rstD=r:=by
  rintro r hr rfl;have h2:r∈l.drop (idxR l r.1):=by rw[Zpe h.sort];exact ϐ.2 ⟨hr,by rw[Zs];rfl⟩
  obtain⟨i,hi,e⟩:=Ϟ.1 h2;have hi':idxR l r.1+i<l.length:=by simp at hi;omega
  rw[Ϲ]at e;have hlt:idxR l r.1<l.length:=O;rcases θ i with h0|h0
  ·subst h0;have e2:l.getD (idxR l r.1) rstD=r:=by
    rw[qy1,qy7 hlt];exact e
   exact⟨decide_eq_true ⟨hlt,by rw[e2]⟩,e2⟩
  exfalso;have hm:l[idxR l r.1]∈l.drop (idxR l r.1):=Ϟ.2 ⟨0,O3,O1⟩;rw[Zpe h.sort]at hm;have h3:=(ϐ.1 hm).2;have h4:Z5 (l[idxR l r.1]).1 (l[idxR l r.1+i]).1=ϑ:=by have hs:=h.sort;rw[sortR,Ϩ]at hs;exact hs _ _ hlt hi' O
  rw[e]at h4;rw[h4]at h3;cases h3
 unfold takW;split
 ·rename_i h1;obtain⟨h2,h3⟩:=of_decide_eq_true h1;have hsub:ϧ (l.take (idxR l c)++l.drop (idxR l c+1)) l:=by
   have e:=ϕ (idxR l c) l;conv=>rhs;rw[<- e]
   refine ϧ.append (ϧ.refl _) ?_;rw[<- ε];exact ϭ _ _
  refine⟨⟨λr hr=>h.each r (hsub.subset hr),h.sort.sublist hsub⟩,λr hr e=>?_,(h.each _ (by rw[qy1,qy7 h2];exact ϯ h2)).2.2⟩;have hp:=h.sort;rw[sortR,<- ϕ (idxR l c) l,Ϙ]at hp;rcases qy13.1 hr with hr|hr
  ·rw[Zxr h.sort]at hr;have:=(ϐ.1 hr).2;rw[e,Zs]at this;cases this
  have hp2:=hp.2.1;have hd:l.drop (idxR l c)=l.getD (idxR l c) rstD::l.drop (idxR l c+1):=by rw[ϸ h2,qy1,qy7 h2];rfl
  rw[hd]at hp2;have:=(ϖ.1 hp2).1 r hr;rw[h3,e,Zs]at this;cases this
 rename_i h1;exact⟨h,λr hr e=>h1 (hno r hr e).1,O1⟩
def Z1a6{l:List Ky}(h:ROk l){s:By}(hc:Z9 c=ϑ)(hn:∀r∈l,¬r.1=c)(hs:s.length<=600):ROk (Zc3 l c s):=by
 unfold Zc3;split
 ·exact h
 rename_i h1;have e1:=Zxr (c:=c) h.sort;have e2:=Zpe (c:=c) h.sort;refine⟨λr hr=>?_,?_⟩
 ·simp only[qy13,qy12]at hr;rcases hr with(hr|rfl)|hr
  ·exact h.each r (ϲ hr)
  ·exact⟨hc,h1,hs⟩
  exact h.each r (Ϣ hr)
 have hp:=h.sort;rw[sortR,<- ϕ (idxR l c) l,Ϙ]at hp;obtain⟨p1,p2,p3⟩:=hp;have lt1:∀r∈l.take (idxR l c),Z5 r.1 c=ϑ:=λr hr=>by rw[e1]at hr;exact(ϐ.1 hr).2
 have lt2:∀r∈l.drop (idxR l c),Z5 c r.1=ϑ:=λr hr=>by
  have hm:=Ϣ hr;rw[e2]at hr;have h3:Z5 r.1 c=Ϡ:=by simpa using(ϐ.1 hr).2
  rcases Z15.1 h3 with h4|h4
  ·exact h4
  exact ϟ h4.symm (hn r hm)
 rw[sortR,Ϧ,Ϙ];refine⟨p1,ϖ.2 ⟨lt2,p2⟩,λa ha b hb=>?_⟩;rcases Ϝ.1 hb with rfl|hb
 ·exact lt1 a ha
 exact p3 a ha b hb
def Z88(fd:By->List Pkt×By×Int)(c s:By)(x:Tel×List Ky):Tel×List Ky :=
  (if ¬(fd ((takW x.2 c).1++s)).2.2=0 then Z4i c ((fd ((takW x.2 c).1++s)).1.foldl (λt p=>Zx c p t) x.1)else(fd ((takW x.2 c).1++s)).1.foldl (λt p=>Zx c p t) x.1,
    Zc3 (takW x.2 c).2 c (fd ((takW x.2 c).1++s)).2.1)
def Zpf(dm:By->Msg×Int)(n:Int)(s:By)(x:Tel×List Ky):Tel×List Ky:=if(dm s).2=0 then(Zu n (dm s).1 x.1,x.2)else x
def Zar(fd:By->List Pkt×By×Int)(dm:By->Msg×Int)(e:Evt)(x:Tel×List Ky):Tel×List Ky :=
 if e.client=[]then Zpf dm e.peer e.bytes x else Z88 fd e.client e.bytes x
def Zbr{c:By}(hc:Z9 c=ϑ):∀(l:List Pkt) {t:Tel},BOk t->(∀p∈l,chkP p=0)->BOk (l.foldl (λt p=>Zx c p t) t)/\(l.foldl (λt p=>Zx c p t) t).out.length<=t.out.length+200*l.length
 | [],t,h,_=>⟨h,O1⟩
 | p::l,t,h,hp=>by have h1:=Zbq h hc (hp p (qy8 ..));have h2:=Zbr hc l h1.1 λq hq=>hp q (qy10 _ hq);refine⟨h2.1,?_⟩;have:=h2.2;have:=h1.2;simp only[ϫ,ϣ];omega
def Zkj{c:By}(hc:Z9 c=ϑ):∀(l:List Pkt) {t:Tel},BOk t->(∀p∈l,chkP p=0)->Z27 t.out->Z27 (l.foldl (λt p=>Zx c p t) t).out
 | [],_,_,_,ho=>ho
 | p::l,_,h,hp,ho=>Zkj hc l (Zbq h hc (hp p (qy8 ..))).1 (λq hq=>hp q (qy10 _ hq)) (Zkh h hc (hp p (qy8 ..)) ho)
def Zeq{e:Evt}:Z47 e=0↔(e.client=[]/\0<=e.peer/\e.peer<=9)\/(¬e.client=[]/\Z9 e.client=ϑ/\e.peer=0):=by
 unfold Z47;by_cases h1:e.client=[]
 ·simp[h1]
 by_cases h2:Z9 e.client=ϑ
 ·by_cases h3:e.peer=0<;>simp[h1,h2]
 simp[h1,h2]
def Zxs{fd:By->List Pkt×By×Int}{dm:By->Msg×Int}(hf:∀s,(∀p∈(fd s).1,chkP p=0)/\(fd s).2.1.length<=600/\(fd s).1.length<=s.length)(hd:∀s,(dm s).2=0->chk (dm s).1=0){e:Evt}(he:Z47 e=0){x:Tel×List Ky}(h:BOk x.1)(hr:ROk x.2): BOk (Zar fd dm e x).1/\ROk (Zar fd dm e x).2/\(Zar fd dm e x).1.out.length<=x.1.out.length+200*(e.bytes.length+601)/\(Z27 x.1.out->Z27 (Zar fd dm e x).1.out):=by
 unfold Zar;rcases Zeq.1 he with⟨h1,h2⟩|⟨h1,h2,h3⟩
 ·rw[ϝ h1,Zpf];split
  ·rename_i h3;have h4:=Zke h h2 (hd _ h3);exact⟨h4.1,hr,by have:=h4.2;show(Zu e.peer (dm e.bytes).1 x.1).out.length<=_;omega,λho=>Zs8 h (hd _ h3) ho⟩
  exact⟨h,hr,O,λho=>ho⟩
 rw[ϛ h1];obtain⟨t1,t2,t3⟩:=Zia hr e.client;obtain⟨f1,f2,f3⟩:=hf ((takW x.2 e.client).1++e.bytes);have p1:=Zbr h2 (fd ((takW x.2 e.client).1++e.bytes)).1 h f1;have p2:=Zkj h2 (fd ((takW x.2 e.client).1++e.bytes)).1 h f1;have hl:(fd ((takW x.2 e.client).1++e.bytes)).1.length<=e.bytes.length+600:=by rw[qy11]at f3;omega
 have hl2:=Nat.mul_le_mul_left 200 hl;unfold Z88;refine⟨?_,Z1a6 t1 h2 t2 f2,?_,?_⟩
 ·split
  ·exact(Za0 p1.1 _).1
  exact p1.1
 ·show(ite _ _ _:Tel).out.length<=_
  have:=p1.2;split
  ·rw[(Za0 p1.1 _).2];omega
  omega
 intro ho;split
 ·rw[(Za0 p1.1 _).2];exact p2 ho
 exact p2 ho
open Go
def Zes{l:List SesX}(h:Z77 (l.map (·.1))){j:Nat}(hij:i<j)(hj:j<l.length):Z5 (l.getD i sxD).1.cl (l.getD j sxD).1.cl=ϑ:=by rw[Z77,μ,Ϩ]at h;have:=h i j O hj hij;simpa[qy7 hj,qy7 (Nat.lt_trans hij hj)]using this
def Zkl{l:List SesX}(hi:i<=l.length)(h1:∀j,j<i->Z5 (l.getD j sxD).1.cl n=ϑ)(h2:∀j,i<=j->j<l.length->Z5 (l.getD j sxD).1.cl n=Ϡ):i=idxS (l.map (·.1)) n:=by
 have e:=(ϕ i l).symm;have f1:(l.take i).filter (λk=>Z5 k.1.cl n)=l.take i:=by
  rw[List.filter_eq_self];intro x hx;obtain⟨j,hj,rfl⟩:=Ϟ.1 hx;have hj':j<i:=by simp at hj;omega
  have:=h1 j hj';rw[List.getElem_take];simpa[qy7 (show j<l.length by omega)]using this
 have f2:(l.drop i).filter (λk=>Z5 k.1.cl n)=[]:=by
  rw[Ϭ];intro x hx;obtain⟨j,hj,rfl⟩:=Ϟ.1 hx;have hj':i+j<l.length:=by simp at hj;omega
  have:=h2 (i+j) O hj';rw[Ϲ];simpa[qy7 hj']using this
 rw[idxS,List.filter_map,qy3]
 show i=(l.filter λk=>Z5 k.1.cl n).length
 rw[e,List.filter_append,f1,f2];simp;omega
def Zkm(w:χ)(v:Ϯ)(l:List SesX)(n:By)(hv:reads w v kSx (l.map Ze))(hs:Z77 (l.map (·.1)))(hl:l.length<1000000000):Calls Tryz.prog 51 #[sc1 v,.string ⟨n.toArray⟩] w λe w'=>e=.returned (.tuple #[.int .i64 (idxS (l.map (·.1)) n),.bool (hasS (l.map (·.1)) n)])/\Mod [] w w':=by
 refine Wr (J:=[.v v,.r (l.map Ze),.s n]) Zho ?_;simp only[QR,ra,gSx0];refine⟨λvs=>∃(i j:Nat),vs=[.i i,.i j]/\i<=j/\j<=l.length/\(∀k,k<i->Z5 (l.getD k sxD).1.cl n=ϑ)/\(∀k,j<=k->k<l.length->Z5 (l.getD k sxD).1.cl n=Ϡ),λvs=>(vs.getD 1 (.i 0)).toI.toNat - (vs.getD 0 (.i 0)).toI.toNat,⟨0,l.length,rfl,O,O,λk hk=>O,λk h1 h2=>O⟩,?_⟩;rintro _ - ⟨i,j,rfl,hij,hj,hA,hB⟩;simp only[QR,ra,gSx0];refine⟨λh1=>?_,λh1=>?_⟩
 ·rw[half i j O];obtain⟨h,hh⟩:∃h,h=(i+j) / 2:=⟨_,rfl⟩
  rw[<- hh];have hh1:i<=h/\h<j:=O;simp only[qy4,gSx0];refine⟨O,O,O,O,O,O,λb=>?_⟩;refine⟨[.i (Z2x (l.getD h sxD).1.cl n)],rfl,λ_ w' _=>Z29 w' _ _,?_⟩;simp only[QR,ra,gSx0];rw[Z6k];refine⟨λh2=>⟨O,O,⟨h+1,j,rfl,O,hj,λk hk=>?_,hB⟩,O⟩,λh2=>⟨⟨i,h,rfl,O,O,hA,λk hk1 hk2=>?_⟩,O⟩⟩
  ·by_cases hkh:k=h
   ·rw[hkh];exact h2
   exact Zf (Zes hs O O) h2
  have h3:Z5 (l.getD h sxD).1.cl n=Ϡ:=by simpa using h2
  by_cases hkh:k=h
  ·rw[hkh];exact h3
  cases h4:Z5 (l.getD k sxD).1.cl n with
  | false=>rfl
  | true =>
   have:=Zf (Zes hs (i:=h) O hk2) h4;rw[h3]at this;cases this
 have hie:i=j:=O;subst hie;have e:=Zkl hj hA hB;refine⟨λh2=>⟨O,λb=>?_⟩,λh2 w' hr=>⟨?_,hr.mod⟩⟩
 ·refine⟨[.i (Z2x (l.getD i sxD).1.cl n)],rfl,λ_ w' _=>Z29 w' _ _,?_⟩;simp only[QR,ra,gSx0];intro w' hr;refine⟨?_,hr.mod⟩;rw[hasS,<- e,Zhm,qy3];simp only[Z3h];congr 4;simp;intro _;omega
 rw[hasS,<- e];have:¬i<l.length:=O;simp[this]
end Go.Proofs.Y
namespace Go.Sx
variable{B:Base}{J:List V}{hp:List Ent}{w:χ}
def Rel.gather(h:Rel B J hp w)(hb:hp.all (Ent.bd J.length)=ϑ)(A:Asrt)(hA:A.holds w)(hf:∀k,A.fp k->∃e∈hp,e.wr=Ϡ/\e.fp J k):Rel B (J++[.a A]) (.st J.length::hp) w:=by
 have hg:(J++[V.a A]).getD J.length (.i 0)=.a A:=O1;have ha:Z18 J.length J (J++[V.a A]):=λi hi=>by simp[ϩ hi]
 have h':=h.ext ha hb;exact h'.cons (by simp only[Ent.holds,hg];exact hA) (ϰ) (by intro e' he' hw k hk hk';simp only[Ent.fp,hg]at hk;obtain⟨e,he,hew,hef⟩:=hf k hk;have hw':=hw.resolve_left (ϰ);have hk2:=(Ent.fp_bd ha e' (List.all_eq_true.1 hb e' he') k).2 hk';exact h.disj he he' (λe=>by subst e;rw[hew]at hw';cases hw') (.inr hw') hef hk2)
end Go.Sx
namespace Go.Proofs.Y
open Go Go.Sx
structure TelX where
 kept:List Kp
 wants:List Kp
 sx:List SesX
 wat:List Wat
 next:Int
 ox:List SntX
 kv:Ϯ
 wv:Ϯ
 sv:Ϯ
 av:Ϯ
 ov:Ϯ
def TelX.tel(x:TelX):Tel:=⟨x.kept,x.wants,x.sx.map (·.1),x.wat,x.next,x.ox.map (·.1)⟩
abbrev tlA(k:Nat)(x:TelX):List V:=[.n k,.v x.kv,.r (x.kept.map encK),.v x.wv,.r (x.wants.map encK),.v x.sv,.r (x.sx.map Ze),.v x.av,.r (x.wat.map Z4),.i x.next,.v x.ov,.r (x.ox.map Zp),.a (Z3 x.sx x.ox)]
abbrev tlV(x:TelX):List V:=[.v x.kv,.r (x.kept.map encK),.v x.wv,.r (x.wants.map encK),.v x.sv,.r (x.sx.map Ze),.v x.av,.r (x.wat.map Z4),.i x.next,.v x.ov,.r (x.ox.map Zp),.a (Z3 x.sx x.ox)]
abbrev tlH:List Ent:=[.rd 1 kK (.var 2),.rd 3 kK (.var 4),.row 5 58 kSx (.var 6),.row 7 68 kW_K (.var 8),.row 10 130 kSn (.var 11),.st 12,.cells 0 249 [.val (.var 1),.val (.var 3),.val (.var 5),.val (.var 7),.int .i64 (.var 9),.val (.var 10)]]
def Zkn(x:TelX)(j:Nat):Prop:=(x.kept.map encK).flatten≠[]/\Z1 x.kv j
def Zat(x:TelX)(j:Nat):Prop:=(x.wants.map encK).flatten≠[]/\Z1 x.wv j
structure Grew(n:Nat)(F:Nat->Prop)(x y:TelX):Prop where
 kept:∀j,Zkn y j->n<=j\/Zkn x j
 want:∀j,Zat y j->n<=j\/Zat x j
 nest:∀j,(Z3 y.sx y.ox).fp j->n<=j\/(Z3 x.sx x.ox).fp j\/F j
def Grew.refl(n:Nat)(F:Nat->Prop)(x:TelX):Grew n F x x:=⟨λ_ h=>.inr h,λ_ h=>.inr h,λ_ h=>.inr (.inl h)⟩
variable{x y:TelX}
def Grew.trans{n m:Nat}{F G:Nat->Prop}{z:TelX}(h:Grew n F x y)(h':Grew m G y z)(hm:n<=m)(hG:∀j,G j->n<=j\/F j):Grew n F x z:=by
 refine⟨λj hj=>?_,λj hj=>?_,λj hj=>?_⟩
 ·rcases h'.kept j hj with h1|h1
  ·exact .inl (Ϥ hm h1)
  exact h.kept j h1
 ·rcases h'.want j hj with h1|h1
  ·exact .inl (Ϥ hm h1)
  exact h.want j h1
 rcases h'.nest j hj with h1|h1|h1
 ·exact .inl (Ϥ hm h1)
 ·exact h.nest j h1
 rcases hG j h1 with h2|h2
 ·exact .inl h2
 exact .inr (.inr h2)
def Zbc(w w':χ)(k:Nat)(x:TelX)(F:Nat->Prop)(t:Tel):Prop:=∃y:TelX,y.tel=t/\Rel ⟨Zh (tlA k x) tlH,w⟩ (tlA k y) tlH w'/\Grew w.heap.size F x y
variable{B:Base}{J:List V}{hp:List Ent}{w:χ}
def Zko{B':Base}(h:Rel B J hp w)(h0:B'.w0=B.w0)(hf:∀j,j∈B.fp->j∈B'.fp):Rel B' J hp w:=by
 refine⟨by rw[h0];exact h.mod.mono λj hj=>.inl (hf j hj),h.holds,λe he hw k hk=>?_,h.sep⟩;rw[h0];rcases h.own e he hw k hk with h1|h1
 ·exact .inl h1
 exact .inr (hf k h1)
variable{k:Nat}
def Z10a{j:Nat}(h:j∈Zh (tlA k x) tlH):j∈k::(x.sv.ownBlock.toList++(x.av.ownBlock.toList++(x.ov.ownBlock.toList++[]))):=by
 simp only[Zh,List.flatMap_cons,Ent.fpl,ζ,η,V.toV_v,V.toN_n,γ,ϥ,qy13,qy12,Ϝ]at h⊢;rcases h with h|h|h|h
 ·exact .inr (.inl h)
 ·exact .inr (.inr (.inl h))
 ·exact .inr (.inr (.inr h))
 exact .inl (by simpa using h)
def Zs9(h:Rel B J hp w)(hb:hp.all (Ent.bd J.length)=ϑ)(k:Nat)(y:TelX)(hA:(Z3 y.sx y.ox).holds w)(hf:∀j,(Z3 y.sx y.ox).fp j->∃e∈hp,e.wr=Ϡ/\e.fp J j)(is:List Nat)(hn:is.Nodup)(hs:(is.filterMap λi=>(Ent.st J.length::hp)[i]?).map (Ent.sem (J++[.a (Z3 y.sx y.ox)]))=tlH.map (Ent.sem (tlA k y))):Rel B (tlA k y) tlH w :=
 ((h.gather hb _ hA hf).pick is hn).conv hs
abbrev tlEs(n:Nat):List Ent:=[.rd n kK (.var (n+1)),.rd (n+2) kK (.var (n+3)),.row (n+4) 58 kSx (.var (n+5)),.row (n+6) 68 kW_K (.var (n+7)),.row (n+9) 130 kSn (.var (n+10)),.st (n+11)]
abbrev tlMs(vk n:Nat):List Ent:=[.cells vk 249 [.val (.var n),.val (.var (n+2)),.val (.var (n+4)),.val (.var (n+6)),.int .i64 (.var (n+8)),.val (.var (n+9))]]
variable{pre:List V}
def Z14s{n:Nat}(hn:J.length+pre.length=n)(i:Nat):(J++(pre++tlV y)).getD (n+i) (.i 0)=(tlV y).getD i (.i 0):=by subst hn;rw[<- Ϧ,qy1,qy1,ϳ O1];simp
def Z14t{vk n:Nat}(hn:J.length+pre.length=n)(hk:J.getD vk (.i 0)=.n k)(hv:vk<J.length):tlH.map (Ent.sem (tlA k y))=(tlEs n++tlMs vk n).map (Ent.sem (J++(pre++tlV y))):=by
 have g:=Z14s (y:=y) hn;have g0:(J++(pre++tlV y)).getD n (.i 0)=.v y.kv:=g 0;have hk':(J++(pre++tlV y)).getD vk (.i 0)=.n k:=by rw[<- hk,qy1,qy1,ϩ hv]
 simp only[ϻ,ϥ,ψ,Γ,Ent.sem,Ent.holds,Ent.fp,Ent.wr,X.ev,Sc.ev,g0,g 1,g 2,g 3,g 4,g 5,g 6,g 7,g 8,g 9,g 10,g 11,hk'];rfl
def Z4j{P:Program}{f:Nat}{args:Array Ϯ}{F:Nat->Prop}{R:TelX->Prop}{v:Ϯ}(h0:Rel B J hp w)(n vk:Nat)(gone:List Nat)(h:Calls P f args w λe w1=>e=.returned v/\∃y:TelX,R y/\Rel ⟨Zh (tlA k x) tlH,w⟩ (tlA k y) tlH w1/\Grew w.heap.size F x y)(hn:J.length+pre.length=n)(hk:J.getD vk (.i 0)=.n k)(hv:vk<J.length)(hM:Zn J [vk] gone=k::(x.sv.ownBlock.toList++(x.av.ownBlock.toList++(x.ov.ownBlock.toList++[]))))(hO:∀j,(Zkn x j\/Zat x j\/(Z3 x.sx x.ox).fp j\/F j)->∃y∈hp,y.wr=Ϡ/\y.fp J j): Calls P f args w λe w1=>∃y:TelX,R y/\w.heap.size<=w1.heap.size/\Grew w.heap.size F x y/\e=.returned v/\Mod (Zn J [vk] gone) w w1/\(∀x∈tlMs vk n,x.holds (J++(pre++tlV y)) w1) /\ (∀x∈tlEs n,x.holds (J++(pre++tlV y)) w1/\∀k,x.fp (J++(pre++tlV y)) k->w.heap.size<=k\/(x.wr=Ϡ/\∃y∈hp,y.wr=Ϡ/\y.fp J k)\/k∈Zq J gone)/\Zt (J++(pre++tlV y)) (tlEs n):=by
 refine h.mono ?_;rintro e w1 ⟨he,y,hT,hq,hg⟩;have hs:=Z14t (y:=y) hn hk hv;have hq':Rel ⟨Zn J [vk] gone,w⟩ (J++(pre++tlV y)) (tlEs n++tlMs vk n) w1:=Zko (hq.conv hs) rfl λj hj=>by rw[show(Base.fp ⟨Zn J [vk] gone,w⟩)=Zn J [vk] gone from rfl,hM];exact Z10a hj
 refine⟨y,hT,hq.mod.size,hg,he,hq'.mod,λx hx=>hq'.holds x (ϙ _ hx),λx hx=>⟨hq'.holds x (ϒ _ hx),λj hj=>?_⟩,(Ϙ.1 hq'.sep).1⟩;cases hw:x.wr with
 | false =>
  have h1:Ent.sem (J++(pre++tlV y)) x∈tlH.map (Ent.sem (tlA k y)):=by rw[hs];exact List.mem_map_of_mem (ϒ _ hx)
  obtain⟨e',he',hee⟩:=ϔ.1 h1;have hw':=(congrArg SEnt.wr hee).trans hw;have hj':=(congrFun (congrArg SEnt.fp hee) j).mpr hj;have key:∀j,(Zkn y j\/Zat y j\/(Z3 y.sx y.ox).fp j)->w.heap.size<=j\/∃y∈hp,y.wr=Ϡ/\y.fp J j:=by
   rintro j (h|h|h)
   ·rcases hg.kept j h with h|h
    ·exact .inl h
    exact .inr (hO j (.inl h))
   ·rcases hg.want j h with h|h
    ·exact .inl h
    exact .inr (hO j (.inr (.inl h)))
   rcases hg.nest j h with h|h|h
   ·exact .inl h
   ·exact .inr (hO j (.inr (.inr (.inl h))))
   exact .inr (hO j (.inr (.inr (.inr h))))
  have fin:w.heap.size<=j\/∃y∈hp,y.wr=Ϡ/\y.fp J j:=by
   simp only[tlH,Ϝ,List.not_mem_nil,or_false]at he';rcases he' with rfl|rfl|rfl|rfl|rfl|rfl|rfl
   ·exact key j (.inl hj')
   ·exact key j (.inr (.inl hj'))
   ·cases hw'
   ·cases hw'
   ·cases hw'
   ·exact key j (.inr (.inr hj'))
   cases hw'
  rcases fin with h|h
  ·exact .inl h
  exact .inr (.inl ⟨rfl,h⟩)
 | true =>
  rcases hq'.own x (ϒ _ hx) hw j hj with h5|h5
  ·exact .inl h5
  simp only[Zn,ψ,Γ,qy13,qy12]at h5;rcases h5 with h5|h5
  ·exfalso;refine(Ϙ.1 hq'.sep).2.2 x hx _ (qy12.2 rfl) (.inl hw) _ hj ?_;rw[h5];simp only[Ent.fp];rw[qy1 (l:=J++_),ϩ hv,<- qy1]
  exact .inr (.inr h5)
abbrev Z39:=Pkt×Ϯ×Ϯ
abbrev pxD:Z39:=(pD_Q 0,.slice Δ 0 0,.slice Δ 0 0)
def Z2y(t:Z39):List Ϯ:=[.int .i64 t.1.kind,.bool t.1.dup,.bool t.1.retain,.bool t.1.clean,.bool t.1.session,.int .i64 t.1.qos,.int .i64 t.1.id,.int .i64 t.1.keep,.int .i64 t.1.code,.string ⟨t.1.client.toArray⟩,.string ⟨t.1.topic.toArray⟩,.string ⟨t.1.payload.toArray⟩,sc1 t.2.1,sc1 t.2.2]
def Zkp(t:Z39):List (Ϯ×List Kd×List (List Ϯ)):=[(t.2.1,[.str,.int .i64],t.1.asks.map encA),(t.2.2,[.int .i64],t.1.codes.map Zg)]
def Za(l:List Z39):Asrt:=rdsZ (l.flatMap Zkp)
def pkF(t:Z39)(k:Nat):Prop:=((t.1.asks.map encA).flatten≠[]/\Z1 t.2.1 k)\/((t.1.codes.map Zg).flatten≠[]/\Z1 t.2.2 k)
def Zbd{l:List Z39}(h:(Za l).holds w){t:Z39}(ht:t∈l):Z4h w t.2.1 t.1.asks/\Z3p w t.2.2 t.1.codes :=
 ⟨h (t.2.1,[.str,.int .i64],t.1.asks.map encA) (ϱ.2 ⟨t,ht,by simp[Zkp]⟩),h (t.2.2,[.int .i64],t.1.codes.map Zg) (ϱ.2 ⟨t,ht,by simp[Zkp]⟩)⟩
def Zet{l:List Z39}{t:Z39}(ht:t∈l)(h:pkF t k):(Za l).fp k:=by
 rcases h with h|h
 ·exact⟨_,ϱ.2 ⟨t,ht,qy8 ..⟩,h⟩
 exact⟨_,ϱ.2 ⟨t,ht,qy10 _ (qy8 ..)⟩,h⟩
def Zkq(c:By)(t:Z39):SntX:=(toC c t.1,t.2.1,t.2.2,.slice Δ 0 0)
variable{c:By}
def Zpg{t:Z39}(h:sntF (Zkq c t) k):pkF t k:=by
 rcases h with h|h|h
 ·exact .inl h
 ·exact .inr h
 exact ϟ rfl h.1
abbrev pkA(c:By)(lv:Ϯ)(l:List Z39):List V:=[.s c,.v lv,.r (l.map Z2y),.a (Za l)]
abbrev pkH:List Ent:=[.rd 14 kP (.var 15),.st 16]
variable{i:Nat}
def Z1c7{l:List Z39}(h:i<l.length):(l.map Z2y).getD i []=Z2y (l.getD i pxD):=by rw[qy1,qy1,List.getElem?_map,qy7 h];rfl
def Z1i1(l:List Z39)(i:Nat)(h:i<l.length):l.take (i+1)=l.take i++[l.getD i pxD]:=by rw[List.take_add_one,qy1,qy7 h];rfl
def Zv(v:Ϯ):sc1 (sc1 v)=sc1 v:=by cases v<;>rfl
def Z14u(w:χ)(k:Nat)(x:TelX)(c:By)(lv:Ϯ)(l:List Z39)(hr:Rel ⟨Zh (tlA k x) tlH,w⟩ (tlA k x++pkA c lv l) (tlH++pkH) w)(hl:l.length<1000000)(ho:x.ox.length<1000000): Calls Tryz.prog 216 #[.pointer (φ ⟨k,0,Δ⟩),.string ⟨c.toArray⟩,sc1 lv] w λe w'=>e=.returned (.tuple #[])/\∃ov':Ϯ,Rel ⟨Zh (tlA k x) tlH,w⟩ (tlA k { x with ox:=x.ox++l.map (Zkq c),ov:=ov' }) tlH w':=by
 refine Wu Z7b hr ?_;simp only[QR,ra];refine⟨λvs=>∃(i:Nat) (u:Ϯ),vs=[.i i,.v x.kv,.r (x.kept.map encK),.v x.wv,.r (x.wants.map encK),.v x.sv,.r (x.sx.map Ze),.v x.av,.r (x.wat.map Z4),.i x.next,.v u,.r ((x.ox++(l.take i).map (Zkq c)).map Zp)]/\i<=l.length,λvs=>l.length - (vs.getD 0 (.i 0)).toI.toNat,⟨0,x.ov,O1,O⟩,?_⟩;rintro _ - ⟨i,u,rfl,hi⟩;simp only[QR,ra];refine⟨λh1=>(by have hrow:=Z1c7 (l:=l) (i:=i) O;simp only[hrow,Z2y,ζ,η,Value.gI,Value.gB,Value.gS];refine⟨O,λb v=>⟨by simp only[qy11,qy3,ξ];omega,λv1=>⟨O,O,⟨i+1,v1,?_,O⟩,O⟩⟩⟩;rw[Z1i1 l i O,Zv,Zv];simp only[List.map_append,Ϧ];rfl),λh1 w' hr=>?_⟩;have:i=l.length:=O;subst this;rw[β]at hr;refine⟨O6,u,?_⟩;refine Zs9 hr (by rfl) k { x with ox:=x.ox++l.map (Zkq c),ov:=u } ?_ ?_ [1,2,3,4,5,0,7] U rfl
 ·refine Z10 (λt ht=>.inl ht) (λt ht=>?_) (hr.at_ 5 rfl);rcases qy13.1 ht with ht|ht
  ·exact .inl ht
  obtain⟨p,hp,rfl⟩:=ϔ.1 ht;have:=Zbd (hr.at_ 8 rfl) hp;exact .inr ⟨this.1,this.2,Z6 _ _⟩
 intro j hj;rcases Z7.1 hj with⟨t,ht,hj⟩|⟨t,ht,hj⟩
 ·exact⟨_,qy6 (i:=5) rfl,rfl,Z7.2 (.inl ⟨t,ht,hj⟩)⟩
 rcases qy13.1 ht with ht|ht
 ·exact⟨_,qy6 (i:=5) rfl,rfl,Z7.2 (.inr ⟨t,ht,hj⟩)⟩
 obtain⟨p,hp,rfl⟩:=ϔ.1 ht;exact⟨_,qy6 (i:=8) rfl,rfl,Zet hp (Zpg hj)⟩
def Z1a7(h:Rel B J hp w)(hb:hp.all (Ent.bd J.length)=ϑ)(k:Nat)(x:TelX)(hA:(Z3 x.sx x.ox).holds w)(hf:∀j,(Z3 x.sx x.ox).fp j->∃e∈hp,e.wr=Ϡ/\e.fp J j)(is:List Nat)(hn:is.Nodup)(hs:(is.filterMap λi=>(Ent.st J.length::hp)[i]?).map (Ent.sem (J++[.a (Z3 x.sx x.ox)]))=tlH.map (Ent.sem (tlA k x))):Rel ⟨Zh (tlA k x) tlH,w⟩ (tlA k x) tlH w :=
 (Zs9 h hb k x hA hf is hn hs).base
def Zd{α:Type}{a b:α}{l m:List α}(h1:a=b)(h2:l=m):a::l=b::m:=by rw[h1,h2]
def Z3w{J':List V}{v v' ty:Nat}{ks:List Kd}{r r':X}(h1:J.getD v (.i 0)=J'.getD v' (.i 0))(h2:(r.ev J).toR=(r'.ev J').toR):Ent.sem J (.row v ty ks r)=Ent.sem J' (.row v' ty ks r'):=by simp only[Ent.sem,Ent.holds,Ent.fp,Ent.wr,h1,h2]
def toRd{v ty:Nat}{ks:List Kd}{r:X}(h:Rel B J (.row v ty ks r::hp) w):Rel B J (.rd v ks r::hp) w :=
 h.tl.cons (owns.reads h.hd) (ϰ) (λe' he' _ k hk hk'=>(ϖ.1 h.sep).1 e' he' (.inl rfl) k hk.2 hk')
abbrev tlHw:List Ent:=[.row 3 65 kK (.var 4),.rd 1 kK (.var 2),.row 5 58 kSx (.var 6),.row 7 68 kW_K (.var 8),.row 10 130 kSn (.var 11),.st 12,.cells 0 249 [.val (.var 1),.val (.var 3),.val (.var 5),.val (.var 7),.int .i64 (.var 9),.val (.var 10)]]
def Z1a8{w3:χ}{l:List Kp}{u:Ϯ}(h:Rel ⟨Zh (tlA k x) tlH,w⟩ (tlA k { x with wants:=l,wv:=u }) tlHw w3):
  Rel ⟨Zh (tlA k x) tlH,w⟩ (tlA k { x with wants:=l,wv:=u }) tlH w3/\Grew w.heap.size (λ_=>False) x { x with wants:=l,wv:=u }:=by
 have hnew:∀j,Z1 u j->w.heap.size<=j:=λj hj=>by
  rcases h.own _ (qy6 (i:=0) rfl) rfl j hj with h1|h1
  ·exact h1
  exfalso;have key:∀(i:Nat) (e:Ent),tlHw[i]?=φ e->i≠0->e.fp (tlA k { x with wants:=l,wv:=u }) j->False:=λi e he hi hf=>h.sep.disj (i:=0) rfl he (λe=>hi e.symm) (.inl rfl) hj hf;rcases Ϝ.1 (Z10a h1)with h2|h2
  ·exact key 6 _ rfl U h2
  rcases qy13.1 h2 with h2|h2
  ·exact key 2 _ rfl U (Ϻ.1 h2)
  rcases qy13.1 h2 with h2|h2
  ·exact key 3 _ rfl U (Ϻ.1 h2)
  rcases qy13.1 h2 with h2|h2
  ·exact key 4 _ rfl U (Ϻ.1 h2)
  cases h2
 exact⟨((toRd h).pick [1,0,2,3,4,5,6] U).conv rfl,λj hj=>.inr hj,λj hj=>.inl (hnew j hj.2),λj hj=>.inr (.inl hj)⟩
def Z14v(w:χ)(k:Nat)(x:TelX)(c:By)(hr:Rel ⟨Zh (tlA k x) tlH,w⟩ (tlA k x++[.s c]) tlH w)(hl:x.wants.length<1000000000): Calls Tryz.prog 221 #[.pointer (φ ⟨k,0,Δ⟩),.string ⟨c.toArray⟩] w λe w'=>e=.returned (.tuple #[])/\∃y:TelX,(∃u,y={ x with wants:=x.wants.filter λw=>decide (¬w.1=c),wv:=u })/\Rel ⟨Zh (tlA k x) tlH,w⟩ (tlA k y) tlH w'/\Grew w.heap.size (λ_=>False) x y:=by
 refine Wu Z8u hr ?_;simp only[QR,ra];intro b1 w1 hr1;obtain⟨l,hlw⟩:∃l,l=x.wants:=⟨_,rfl⟩
 refine(Z63 w1 x.wv x.wants (hr1.at_ 3 rfl) O).mono ?_;rintro e w2 ⟨u,rfl,a1,f1,m1⟩;refine⟨[.v u,.r (x.wants.map encK)],rfl,rfl,m1,qy5 _,qy2.2 ⟨⟨a1,λk hk=>.inl (f1 k hk)⟩,qy5 _⟩,Z2,?_⟩;simp only[QR,ra,gK0,gK1,gK2];rw[<- hlw]at hl;generalize hkp:(λw:Kp=>decide (¬w.1=c))=kp;have kp0:∀x:Kp,x.1=c->¬kp x=ϑ:=λx hx=>by rw[<- hkp];simp[hx]
 have kp1:∀x:Kp,¬x.1=c->kp x=ϑ:=λx hx=>by rw[<- hkp];simp[hx]
 refine⟨λvs=>∃(x:V) (i:Nat),vs=[x,.i i,.s c]/\i<=l.length/\∀j,j<i->kp (l.getD j kD)=ϑ,λvs=>(l.length - (vs.getD 1 (.i 0)).toI).toNat,⟨_,0,rfl,O,λj hj=>O⟩,?_⟩;rintro _ - ⟨z,i,rfl,hi,hn⟩;simp only[QR,ra,gK0,gK1,gK2,<- hlw];have hend:∀(u':Ϯ) (w3:χ),Rel ⟨Zh (tlA k x) tlH,w⟩ (tlA k { x with wants:=l.filter kp,wv:=u' }) tlHw w3->∃y:TelX,(∃u,y={ x with wants:=l.filter kp,wv:=u })/\Rel ⟨Zh (tlA k x) tlH,w⟩ (tlA k y) tlH w3/\Grew w.heap.size (λ_=>False) x y:=λu' w3 hr3=>by obtain⟨q1,q2⟩:=Z1a8 hr3;exact⟨_,⟨u',rfl⟩,q1,q2⟩
 refine⟨λh1=>?_,λh1 w3 hr=>⟨O6,?_⟩⟩
 ·repeat (first|omega|refine⟨O,?_⟩)
  intro b7;refine⟨λh2=>⟨λh3=>O,λh3=>⟨O,O,?_⟩⟩,λh2=>?_⟩
  ·refine⟨λvs=>∃(a j:Nat) (R:List Kp),vs=[.i a,.i j,.r (R.map encK),.s c]/\a<j/\j<=l.length/\R.length=l.length/\R.take a=(l.take j).filter kp/\R.drop j=l.drop j,λvs=>(l.length - (vs.getD 1 (.i 0)).toI).toNat,
    ⟨i,i+1,l,rfl,O,O,rfl,?_,rfl⟩,?_⟩
   ·rw[Z3l kp l i O,ϛ (kp0 _ h2),γ,Zef hn]
   rintro _ - ⟨a,j,R,rfl,haj,hj,hR,ht,hd⟩;simp only[QR,ra,gK0,gK1,gK2,hR];refine⟨λh3=>?_,λh3=>?_⟩
   ·repeat (first|omega|refine⟨O,?_⟩)
    intro b8 b9;have hg:=Zrn hd;refine⟨λh4=>?_,λh4=>?_⟩
    ·repeat (first|omega|refine⟨O,?_⟩)
     exact⟨⟨a+1,j+1,R.set a (R.getD j kD),by rw[<- Z1u];rfl,O,O,by simpa using hR,Zju haj O hR ht hd (kp1 _ (by rw[<- hg];exact h4)),by rw[List.drop_set_of_lt O];exact Z8s hd⟩,O⟩
    repeat (first|omega|refine⟨O,?_⟩)
    refine⟨⟨a,j+1,R,rfl,O,O,hR,?_,Z8s hd⟩,O⟩;rw[Z3l kp l j O,ϛ (kp0 _ (by rw[<- hg];exact qy9.1 h4)),γ];exact ht
   have hje:j=l.length:=O;subst hje;rw[β]at ht;refine⟨O,O,by simp only[qy11,ξ,List.length_replicate,qy3,hR];omega,λu' w3 hr=>⟨O6,by refine hend u' w3 ((hr.pick [0,5,7,8,9,10,11] U).conv (Zd (Z3w rfl ?_) rfl));simp only[QR,ra,gK0,gK1,gK2];rw[List.take_append_of_le_length O3,List.take_take,Nat.min_self,<- List.map_take,ht]⟩⟩
  repeat (first|omega|refine⟨O,?_⟩)
  refine⟨⟨_,i+1,rfl,O,λj hj=>?_⟩,O⟩;by_cases hji:j=i
  ·subst hji;exact kp1 _ h2
  exact hn j O
 have hie:i=l.length:=O;subst hie;have e1:=Zef (p:=kp) hn;rw[β]at e1;refine hend u w3 ((hr.pick [1,4,6,7,8,9,10] U).conv ?_);rw[e1,hlw];rfl
