/-
  A small verified symbolic executor (part G: the law of the operations that change no memory). By an AI agent.
-/
import Derived.Test.YtimapehenhbloaaGreatDoorH01
set_option linter.all false
set_option maxHeartbeats 20000000
set_option maxRecDepth 100000
open Option renaming some→ϐ,bind_eq_some_iff→ϑ,bind_eq_bind→ϓ,ite_none_right_eq_some→ϔ,some→ϕ,map_eq_some_iff→ϖ
open Prod renaming mk→ϒ
open Go renaming Value→ϗ
namespace Go.Sx
open Go
variable {P:Program} {T:Tab} {J:List V} {hp:List Ent} {w:World}
variable{t:Nat}
def Z179{l:By}{lo hi:Option ϗ}{a b:Int}(ht:P.underlying t=ϕ .string)(hlo:∀v,lo=ϕ v->∃k,v=.int k a)(hhi:∀v,hi=ϕ v->∃k,v=.int k b)(h1:lo=none->a=0)(h2:hi=none->b=l.length)(ha:0<=a)(hab:a<=b)(hb:b<=l.length): (Instr.sliceAt t (.string ⟨l.toArray⟩) lo hi none).run P w=.ok (.string ⟨((l.take b.toNat).drop a.toNat).toArray⟩) w:=by
 have hb0:0<=b:=O;have e1:b<=((⟨l.toArray⟩:ByteArray).size):=by rw[Znt];exact hb
 have key:(Instr.sliceAt t (.string ⟨l.toArray⟩) lo hi none).run P w=.ok (.string ((⟨l.toArray⟩:ByteArray).extract a.toNat b.toNat)) w:=by
  cases lo<;>cases hi
  ·have:=h1 rfl;subst this;have:=h2 rfl;subst this;simp[Instr.sliceAt,Instr.slice,Instr.sliceBounds,go_sem,run_underlying ht];rw[Z10x];simp
  ·obtain⟨k,rfl⟩:=hhi _ rfl;have:=h1 rfl;subst this;have e2:b<=((l.length:Nat):Int):=hb;simp[Instr.sliceAt,Instr.slice,Instr.sliceBounds,Instr.sliceBound,asIntOf,go_sem,run_underlying ht,hb0,e2]
  ·obtain⟨k,rfl⟩:=hlo _ rfl;have:=h2 rfl;subst this;have e2:a<=((l.length:Nat):Int):=hab;simp[Instr.sliceAt,Instr.slice,Instr.sliceBounds,Instr.sliceBound,asIntOf,go_sem,run_underlying ht,ha,e2]
  obtain⟨k,rfl⟩:=hlo _ rfl;obtain⟨k',rfl⟩:=hhi _ rfl;obtain⟨n,rfl⟩:=Int.eq_ofNat_of_zero_le hb0;obtain⟨m,rfl⟩:=Int.eq_ofNat_of_zero_le ha;have e2:n<=l.length:=O;have e3:m<=n:=O;simp[Instr.sliceAt,Instr.slice,Instr.sliceBounds,Instr.sliceBound,asIntOf,go_sem,run_underlying ht,e2,e3]
 rw[key,Z10x]
variable{k:IntKind}
def Z17a{l:By}{i:Int}(ht:P.underlying t=ϕ .string)(h0:0<=i)(h1:i<l.length): (Instr.index t (.string ⟨l.toArray⟩) (.int k i)).run P w=.ok (.int .u8 ((l.getD i.toNat 0).toNat:Int)) w:=by
 have h2:i.toNat<l.length:=O;have e:(⟨l.toArray⟩:ByteArray)[i.toNat]?=ϕ l[i.toNat]:=by rw[getElem?_pos _ _ (by simpa[ByteArray.size]using h2)];simp[ByteArray.getElem_eq_getElem_data]
 simp[Instr.index,go_sem,run_underlying ht,h0,e,qy1,qy7 h2]
variable(n:Nat)
def Zaw(t:Nat)(a b:Bool)(ht:P.underlying t=ϕ .bool):(Op.equalIn (n+1) t (.bool a) (.bool b)).run P w=.ok (a == b) w:=by simp only[Op.equalIn];simp[run_underlying ht]
def Zti(t:Nat)(k k':IntKind)(a b:Int)(ht:P.underlying t=ϕ (.int k')):(Op.equalIn (n+1) t (.int k a) (.int k b)).run P w=.ok (a == b) w:=by simp only[Op.equalIn];simp[run_underlying ht]
def Ztj(t:Nat)(a b:By)(ht:P.underlying t=ϕ .string):(Op.equalIn (n+1) t (.string ⟨a.toArray⟩) (.string ⟨b.toArray⟩)).run P w=.ok (decide (a=b)) w:=by simp only[Op.equalIn];simp[run_underlying ht,Z1gt]
def Z17b(t:Nat)(a b:Bool)(x y:Operand)(ht:P.underlying t=ϕ .bool):(do Go.eqGuard .eql t x y (.bool a) (.bool b);Go.binOp .eql t (.bool a) (.bool b):Sem ϗ).run P w=.ok (.bool (a == b)) w:=by have:=Zaw (w:=w) 9999 t a b ht;simp only[Go.binOp,Op.equal,Op.maxDepth];simp[go_sem,this]
def Z17c(t:Nat)(a b:Bool)(x y:Operand)(ht:P.underlying t=ϕ .bool):(do Go.eqGuard .neq t x y (.bool a) (.bool b);Go.binOp .neq t (.bool a) (.bool b):Sem ϗ).run P w=.ok (.bool (!(a == b))) w:=by have:=Zaw (w:=w) 9999 t a b ht;simp only[Go.binOp,Op.equal,Op.maxDepth];simp[go_sem,this]
variable{off:Nat}{cs:List Sc}
def Zql{d:TypeDesc}{a:Sc}(hd:P.underlying t=ϕ d)(hg:Z2m d=false)(ha:cs[off]?=ϕ a): (part t (cs.map (Sc.ev J)).toArray off).run P w=.ok (a.ev J) w:=by
 have hv:((cs.map (Sc.ev J)).toArray)[off]?=ϕ (a.ev J):=by simp[ha]
 cases d<;>simp[Z2m]at hg<;>simp only[part,isAgg]<;>simp[run_underlying hd,hv]
def Zyu(hT:Zij P T){d ty:Nat}{a b:Sc}{e:X}(h:Zth T ty a b=ϕ e): ∃u,P.underlying ty=ϕ u/\Z2m u=false/\(Op.equalIn (d+1) ty (a.ev J) (b.ev J)).run P w=.ok (e.ev J).toB w:=by
 unfold Zth at h;split at h
 ·rename_i k0 k x k' y ht;simp only[ϔ,ϐ.injEq]at h;obtain⟨rfl,rfl⟩:=h;obtain⟨u,hu,ht⟩:=hT.tag ht;have:=Znw ht;subst this;refine⟨_,hu,rfl,?_⟩;simp only[Sc.ev,Zti d ty _ _ _ _ hu,X.ev,V.toB_b];first|rfl|(congr 1;rw[Bool.eq_iff_iff];simp;done)
 ·rename_i x y ht;simp only[ϐ.injEq]at h;subst h;obtain⟨u,hu,ht⟩:=hT.tag ht;have:=Znv ht;subst this;refine⟨_,hu,rfl,?_⟩;simp only[Sc.ev,Zaw d ty _ _ hu,X.ev,V.toB_b];first|rfl|(congr 1;rw[Bool.eq_iff_iff];simp;done)
 ·rename_i x y ht;simp only[ϐ.injEq]at h;subst h;obtain⟨u,hu,ht⟩:=hT.tag ht;have:=Zcg ht;subst this;refine⟨_,hu,rfl,?_⟩;simp only[Sc.ev,Ztj d ty _ _ hu,X.ev,V.toB_b]
 cases h
def Z11a(hT:Zij P T){d:Nat}{ds:List Sc}:∀{fl:List (Nat×Nat×Nat×Bool)} {fs:List Field} {e:X},fl.length=fs.length -> (∀(n:Nat) p,fl[n]?=ϕ p->∃f,fs[n]?=ϕ f/\f.offset=p.1/\f.type=p.2.1/\(f.name ≠ "_"))->Zqi T cs ds fl=ϕ e -> (Op.eqFields (d+1) (cs.map (Sc.ev J)).toArray (ds.map (Sc.ev J)).toArray fs).run P w=.ok (e.ev J).toB w:=by
 intro fl;induction fl with
 | nil =>
  intro fs e hl _ h;simp[Zqi]at h;subst h;cases fs
  ·simp[Op.eqFields,X.ev]
  simp at hl
 | cons p fl ih =>
  intro fs e hl hp h;obtain⟨off,ty,sz,ag⟩:=p;cases fs with
  | nil=>simp at hl
  | cons f fs =>
   simp only[Zqi,ϓ,ϑ,ϐ.injEq]at h;obtain⟨a,ha,b,hb,e1,he1,e2,he2,rfl⟩:=h;obtain⟨f',hf',h1,h2,h3⟩:=hp 0 _ rfl;simp at hf';subst hf';have h1:=h1;have h2:=h2;obtain⟨u,hu,hag,heq⟩:=Zyu (w:=w) (J:=J) (d:=d) hT he1;have hr:=ih (by simpa using hl) (λn p hn=>by simpa using hp (n+1) p (by simpa using hn)) he2;rw[Op.eqFields,ϝ h3];simp only[h1,h2,Sem.run_bind,Zql hu hag ha,Zql hu hag hb,Result.andThen_ok,heq,Zdb];cases(e1.ev J).toB
   ·simp
   simpa using hr
def Zvp(hT:Zij P T){ds:List Sc}{e:X}(h:Z1d0 T t cs ds=ϕ e): (Op.equalIn 10000 t (.agg (cs.map (Sc.ev J)).toArray) (.agg (ds.map (Sc.ev J)).toArray)).run P w=.ok (e.ev J).toB w/\P.eqGuardType P.depth t=false:=by
 unfold Z1d0 at h;split at h
 ·rename_i i hi;split at h
  ·rename_i heq;obtain⟨h1,h2⟩:=(hT.get hi).cmp heq;obtain⟨d,inf,z,hd,-,-,-,-,-,-,-,-,htag,-⟩:=(hT.get hi).ok;split at h
   ·rename_i fl hfl;rw[hfl]at htag;cases d<;>simp only[Zbz]at htag;rename_i fs;obtain⟨t1,t2⟩:=htag;have hfo:P.fieldsOf t=fs:=by simp[Program.fieldsOf,hd]
    refine⟨?_,h2⟩;rw[show(10000:Nat)=9999+1 from rfl,run_equalIn_struct w 9999 t _ _ (by rw[hfo];exact hd) h1,hfo];exact Z11a hT (by simpa using t1) (λn p hn=>by obtain⟨f,d,i,q1,q2,q3,q4,-⟩:=t2 n p hn;exact⟨f,by simpa using q1,q2,q3,q4⟩) h
   cases h
  cases h
 cases h
def Z65{x y:X}(h:Zaf J (Zdd x y)):(x.ev J).toI<=(y.ev J).toI:=by
 unfold Zdd at h;split at h
 ·rename_i e;subst e;exact Int.le_refl _
 split at h
 ·rename_i a b ha hb;have:=X.hi_ok J x a ha;have:=X.lo_ok J y b hb;split at h
  ·omega
  exact of_decide_eq_true (h _ (qy12.2 rfl))
 exact of_decide_eq_true (h _ (qy12.2 rfl))
def Zbf{g:Operand->Option CV}{e:Operand->ϗ}(hg:∀x c,g x=ϕ c->e x=CV.ev J c){d:X}{lo:Option Operand}{l:X}(h:Znu g d lo=ϕ l): (∀v,lo.map e=ϕ v->∃k,v=.int k (l.ev J).toI)/\(lo.map e=none->l=d):=by
 cases lo with
 | none=>simp[Znu]at h;simp[h]
 | some x =>
  simp only[Znu]at h;split at h
  ·rename_i k l' hx;simp only[ϐ.injEq]at h;subst h;have:=hg _ _ hx;simp only[CV.ev,Sc.ev]at this;simp[this]
  cases h
def Z17d{src dst:Nat}{k':IntKind}{n:Int}{d:TypeDesc}(hs:P.underlying src=ϕ d)(hd:P.underlying dst=ϕ (.int k)):(convert src dst (.int k' n)).run P w=.ok (.int k (k.wrap n)) w:=by simp[convert,run_underlying hs,run_underlying hd,Conv.intToInt]
def Z17e{src dst:Nat}{s:ByteArray}{d:TypeDesc}(hs:P.underlying src=ϕ d)(hd:P.underlying dst=ϕ .string):(convert src dst (.string s)).run P w=.ok (.string s) w:=by cases d<;>simp[convert,run_underlying hs,run_underlying hd]
def Zm0{n:Nat}{fs:Array Field}{f:Field}{i:TypeInfo}{a:Addr}(hd:P.underlying t=ϕ (.struct fs))(hf:fs[n]?=ϕ f)(hi:P.info? f.type=ϕ i)(h0:i.size≠0): (Instr.fieldAt t (.pointer (ϕ a)) n).run P w=.ok (.pointer (ϕ (a.add f.offset))) w:=by simp[go_sem,run_underlying hd,hf,hi,fieldPlace,sizeOf,typeInfo,h0,Instr.sureAddr]
def Z17f{n:Nat}{fs:Array Field}{f:Field}{cs:Array ϗ}(hd:P.underlying t=ϕ (.struct fs))(hf:fs[n]?=ϕ f): (Instr.field t (.agg cs) n).run P w=(part f.type cs f.offset).run P w:=by simp[Instr.field,run_underlying hd,hf,asAgg]
def Z17g{d:TypeDesc}{i:TypeInfo}{cs:Array ϗ}(hd:P.underlying t=ϕ d)(hi:P.info? t=ϕ i)(hg:Z2m d=true): (part t cs off).run P w=.ok (.agg (cs.extract off (off+i.size))) w:=by cases d<;>simp[Z2m]at hg<;>simp[isAgg,go_sem,run_underlying hd,sizeOf,typeInfo,hi]
def Z17h{d:TypeDesc}{cs:Array ϗ}{v:ϗ}(hd:P.underlying t=ϕ d)(hg:Z2m d=false)(hv:cs[off]?=ϕ v): (part t cs off).run P w=.ok v w:=by cases d<;>simp[Z2m]at hg<;>simp[isAgg,go_sem,run_underlying hd,hv]
def Zyv{e:Nat}{inf:TypeInfo}{ad:Addr}{n cap:Nat}{i:Int}(hd:P.underlying t=ϕ (.slice e))(hi:P.info? e=ϕ inf)(h0:0<=i)(h1:i<n): (Instr.indexAt t (.slice (ϕ ad) n cap) (.int k i)).run P w=.ok (.pointer (ϕ (ad.add (i.toNat*inf.size)))) w:=by simp[Instr.indexAt,go_sem,run_underlying hd,sizeOf,typeInfo,hi,h0,h1]
def Z17i{fs:Array Field}{inf:TypeInfo}{z:ϗ}{fl:List (Nat×Nat×Nat×Bool)}{zs:List Sc}{parts:Array (Nat×Operand)}{e:Operand->ϗ}{ps:List (Nat×CV)}(hd:P.underlying t=ϕ (.struct fs))(hi:P.info? t=ϕ inf)(hz:inf.zero=ϕ z)(hz0:z.cells=(zs.map (Sc.ev J)).toArray)(hpl:∀G:Field->Sem (Nat×Nat),(∀f i,P.info? f.type=ϕ i->(G f).run P w=.ok (f.offset,i.size) w)->(fs.mapM G).run P w=.ok (fl.map λp=>(p.1,p.2.2.1)).toArray w)(hparts:parts.map (λ(p:Nat×Operand)=>(p.1,e p.2))=(ps.map λp=>(p.1,CV.ev J p.2)).toArray)(hfill:Instr.fill (λn=>((fl.map λp=>(p.1,p.2.2.1)).toArray)[n]?) (zs.map (Sc.ev J)).toArray (ps.map λp=>(p.1,CV.ev J p.2))=ϕ (cs.map (Sc.ev J)).toArray): (Instr.build t (parts.map λ(p:Nat×Operand)=>(p.1,e p.2))).run P w=.ok (CV.ev J (true,cs)) w:=by
 have h:=hpl (λf=>do pure (f.offset,<- sizeOf f.type)) (λf i hi=>by simp[sizeOf,typeInfo,hi]);rw[hparts];have e1:(zeroValue t).run P w=.ok z w:=by simp[go_sem,zeroValue,typeInfo,hi,hz]
 have e2:=run_underlying hd w;have e3:∀(k:Sem ϗ) (x:Option (Array ϗ)) (y:Array ϗ),x=ϕ y->(match x with|some cells=>(pure (.agg cells):Sem ϗ)|_=>k).run P w=.ok (.agg y) w:=by rintro k _ y rfl;simp[go_sem]
 unfold Instr.build;rw[Sem.run_bind,e1];simp only[Result.andThen];rw[Sem.run_bind,e2];simp only[Result.andThen];rw[Sem.run_bind,h];simp only[Result.andThen,List.toList_toArray,hz0];exact e3 _ _ _ hfill
def Zvq(hT:Zij P T)(hr:Hold J hp w){e v:Nat}{p:List Kd×X}(ht:T.tag t=ϕ (.slice e))(hf:Z19 hp v=ϕ p): P.underlying t=ϕ (.slice e)/\∃a n c,(J.getD v (.i 0)).toV=.slice a n c:=by obtain⟨d,hd,ht⟩:=hT.tag ht;have:=Z2w ht;subst this;obtain⟨ks,r⟩:=p;obtain⟨_,a,cap,hv,_⟩:=Z4o hr hf;exact⟨hd,a,_,cap,hv⟩
def Z11b(hT:Zij P T)(hr:Hold J hp w){g:Operand->Option CV}{e:Operand->ϗ}(hg:∀x c,g x=ϕ c->e x=CV.ev J c){o:Oper}{ns:List X}{c:CV}(h:Z114 T hp g o.op=ϕ (ns,c))(hn:Zaf J ns):(execOp e o).run P w=.ok (.value (CV.ev J c)) w:=by
 obtain⟨dst,op,ty,pos,after,guard⟩:=o;simp only[]at h;unfold Z114 at h;split at h
 ·
  simp only[ϖ,ϒ.injEq]at h;obtain⟨c',hc,rfl,rfl⟩:=h;simp[execOp,go_sem,hg _ _ hc]
 ·
  simp only[ϖ,ϒ.injEq]at h;obtain⟨c',hc,rfl,rfl⟩:=h;simp[execOp,go_sem,hg _ _ hc]
 ·
  split at h
  ·rename_i hc;simp only[ϐ.injEq,ϒ.injEq]at h;obtain⟨rfl,rfl⟩:=h;have:=hg _ _ hc;simp[execOp,go_sem,this,CV.ev,Sc.ev]
  cases h
 ·
  split at h
  ·rename_i a b hx hy;have hx:=hg _ _ hx;have hy:=hg _ _ hy;simp only[CV.ev,Sc.ev]at hx hy;split at h
   ·rename_i ht;simp only[ϐ.injEq,ϒ.injEq]at h;obtain⟨rfl,rfl⟩:=h;obtain⟨d,hd,ht⟩:=hT.tag ht;have:=Znv ht;subst this;refine runv ?_;simp only[hx,hy,Z17b _ _ _ _ _ hd,CV.ev,Sc.ev,X.ev,V.toB_b];rfl
   ·rename_i ht;simp only[ϐ.injEq,ϒ.injEq]at h;obtain⟨rfl,rfl⟩:=h;obtain⟨d,hd,ht⟩:=hT.tag ht;have:=Znv ht;subst this;refine runv ?_;simp only[hx,hy,Z17c _ _ _ _ _ hd,CV.ev,Sc.ev,X.ev,V.toB_b];rfl
   cases h
  ·rename_i a hx hy;have hx:=hg _ _ hx;have hy:=hg _ _ hy;simp only[CV.ev,Sc.ev]at hx hy;split at h
   ·rename_i e v ht hx0;simp only[ϖ,ϒ.injEq]at h;obtain⟨p,hf,rfl,rfl⟩:=h;obtain⟨hd,a,n,c,hv⟩:=Zvq hT hr ht hf;simp only[X.ev,hv,Zii]at hx;refine runv ?_;simp only[hx,hy,CV.ev,Sc.ev,X.ev,V.toB_b,hv];have e1:=Lib.run_eql_slice_nil w _ _ a n c 0 0 hd;cases a<;>simp[Go.eqGuard,go_sem,e1]
   ·rename_i e v ht hx0;simp only[ϖ,ϒ.injEq]at h;obtain⟨p,hf,rfl,rfl⟩:=h;obtain⟨hd,a,n,c,hv⟩:=Zvq hT hr ht hf;simp only[X.ev,hv,Zii]at hx;refine runv ?_;simp only[hx,hy,CV.ev,Sc.ev,X.ev,V.toB_b,hv];have e1:=run_neq_slice_nil w _ _ a n c hd;cases a<;>simp[Go.eqGuard,go_sem,e1]
   cases h
  ·rename_i a b _ _ hx hy;have hx:=hg _ _ hx;have hy:=hg _ _ hy;simp only[CV.ev]at hx hy;refine runv ?_;simp only[hx,hy];exact Z178 h hn _ _ _
  ·rename_i cs ds hx hy;have hx:=hg _ _ hx;have hy:=hg _ _ hy;simp only[CV.ev]at hx hy;split at h
   ·rename_i e he;simp only[ϐ.injEq,ϒ.injEq]at h;obtain⟨rfl,rfl⟩:=h;obtain⟨h1,h2⟩:=Zvp hT he;refine runv ?_;simp only[hx,hy];rw[Sem.run_bind,run_eqGuard_agg w _ _ _ _ _ _ h2,Result.andThen_ok,run_eql_struct,h1];rfl
   ·rename_i e he;simp only[ϐ.injEq,ϒ.injEq]at h;obtain⟨rfl,rfl⟩:=h;obtain⟨h1,h2⟩:=Zvp hT he;refine runv ?_;simp only[hx,hy];rw[Sem.run_bind,run_eqGuard_agg w _ _ _ _ _ _ h2,Result.andThen_ok,run_neq_struct,h1];simp only[Result.andThen_ok,CV.ev,Sc.ev,Z91]
   cases h
  cases h
 ·
  split at h
  ·rename_i a hc;simp only[ϐ.injEq,ϒ.injEq]at h;obtain⟨rfl,rfl⟩:=h;have:=hg _ _ hc;simp only[CV.ev,Sc.ev]at this;refine runv ?_;simp[this,Op.unary,go_sem,CV.ev,Sc.ev,Z91]
  cases h
 ·
  split at h
  ·rename_i k a hc;simp only[ϐ.injEq,ϒ.injEq]at h;obtain⟨rfl,rfl⟩:=h;have:=hg _ _ hc;simp only[CV.ev,Sc.ev]at this;refine runv ?_;simp only[CV.ev,Sc.ev,Zav hn];simp[this,Op.unary,Op.intArith,go_sem,X.ev]
  cases h
 ·
  split at h
  ·rename_i i k k' a hs ht hc;simp only[ϐ.injEq,ϒ.injEq]at h;obtain⟨rfl,rfl⟩:=h;have:=hg _ _ hc;simp only[CV.ev,Sc.ev]at this;obtain⟨d,hd,ht⟩:=hT.tag ht;have:=Znw ht;subst this;obtain⟨d',_,_,hd',-⟩:=(hT.get hs).ok;refine runv ?_;simp only[CV.ev,Sc.ev,Zav hn,this];exact Z17d hd' hd
  ·rename_i i a hs ht hc;simp only[ϐ.injEq,ϒ.injEq]at h;obtain⟨rfl,rfl⟩:=h;have:=hg _ _ hc;simp only[CV.ev,Sc.ev]at this;obtain⟨d,hd,ht⟩:=hT.tag ht;have:=Zcg ht;subst this;obtain⟨d',_,_,hd',-⟩:=(hT.get hs).ok;refine runv ?_;simp only[this];exact Z17e hd' hd
  cases h
 ·
  split at h
  ·rename_i x lo hi _ _ a ht hc;have hx:=hg _ _ hc;simp only[CV.ev,Sc.ev]at hx;obtain⟨d,hd,ht⟩:=hT.tag ht;have:=Zcg ht;subst this;split at h
   ·rename_i l u hl hu;simp only[ϐ.injEq,ϒ.injEq]at h;obtain⟨rfl,rfl⟩:=h;obtain⟨n1,n23⟩:=hn.app;obtain⟨n2,n3⟩:=n23.app;obtain⟨l1,l2⟩:=Zbf hg hl;obtain⟨u1,u2⟩:=Zbf hg hu;refine runv ?_;simp only[hx,CV.ev,Sc.ev,X.ev,V.toS_s,Option.map_none];refine Z179 hd l1 u1 (λh=>by rw[l2 h];rfl) (λh=>by rw[u2 h];rfl) (Z1i n1) (Z65 n2) (Z65 n3)
   cases h
  cases h
 ·
  split at h
  ·rename_i s x f _ _ fl v off ht hc;have hx:=hg _ _ hc;simp only[CV.ev,Sc.ev]at hx;obtain⟨d,hd,ht⟩:=hT.tag ht;obtain⟨fs,rfl,hlen,hfl⟩:=Zde ht;simp only[ϓ,ϑ]at h;obtain⟨⟨fo,fty,sz,ag⟩,hf,h⟩:=h;simp only[ϔ,ϐ.injEq,ϒ.injEq]at h;obtain⟨hpos,rfl,rfl⟩:=h;obtain⟨fd,d',i',h1,h2,h3,h4,h5,h6,h7,h8⟩:=hfl _ _ hf;simp only[]at h2 h3 h7 h8;refine runv ?_;simp only[hx,CV.ev,Sc.ev];rw[Zm0 hd h1 h6 (by rw[h7];omega),h2];simp[Zly]
  ·rename_i s x f _ _ fl v esz i c0 ht hc;have hx:=hg _ _ hc;simp only[CV.ev,Sc.ev]at hx;obtain⟨d,hd,ht⟩:=hT.tag ht;obtain⟨fs,rfl,hlen,hfl⟩:=Zde ht;simp only[ϓ,ϑ]at h;obtain⟨⟨fo,fty,sz,ag⟩,hf,⟨ks,r⟩,hrow,h⟩:=h;simp only[ϔ,ϐ.injEq,ϒ.injEq]at h;obtain⟨hpos,rfl,rfl⟩:=h;obtain⟨fd,d',i',h1,h2,h3,h4,h5,h6,h7,h8⟩:=hfl _ _ hf;simp only[]at h2 h3 h7 h8;obtain⟨ad,cap,hv,h0,hlt⟩:=hr.toRow hrow hn;refine runv ?_;simp only[hx,CV.ev,Sc.ev,hv];rw[Zm0 hd h1 h6 (by rw[h7];omega),h2,Zhr,Nat.add_assoc]
  cases h
 ·
  split at h
  ·rename_i t x f _ _ fl cs ht hc;have hx:=hg _ _ hc;simp only[CV.ev]at hx;obtain⟨d,hd,ht⟩:=hT.tag ht;obtain⟨fs,rfl,hlen,hfl⟩:=Zde ht;simp only[ϓ,ϑ]at h;obtain⟨⟨fo,fty,sz,ag⟩,hf,h⟩:=h;obtain⟨fd,d',i',h1,h2,h3,h4,h5,h6,h7,h8⟩:=hfl _ _ hf;simp only[]at h2 h3 h7 h8;refine runv ?_;simp only[hx];rw[Z17f hd h1];split at h
   ·rename_i hag;simp only[ϐ.injEq,ϒ.injEq]at h;obtain⟨rfl,rfl⟩:=h;rw[h2];rw[Z17g h5 h6 (by rw[h8];exact hag),h7];simp[CV.ev,List.extract_eq_take_drop,List.map_take,List.map_drop]
   rename_i hag;simp only[ϑ,ϐ.injEq,ϒ.injEq]at h;obtain⟨c',hc',rfl,rfl⟩:=h;rw[h2];rw[Z17h h5 (by rw[h8];simpa using hag) (v:=c'.ev J) (by simp[hc'])];rfl
  cases h
 ·
  split at h
  ·rename_i t x i _ _ _ e v k ix ht hc hi;have hx:=hg _ _ hc;have hix:=hg _ _ hi;simp only[CV.ev,Sc.ev,X.ev]at hx hix;obtain⟨d,hd,ht⟩:=hT.tag ht;have:=Z2w ht;subst this;simp only[ϓ,ϑ]at h;obtain⟨ei,hei,⟨ks,r⟩,hrow,h⟩:=h;simp only[ϔ,ϐ.injEq,ϒ.injEq]at h;obtain⟨hks,rfl,rfl⟩:=h;obtain⟨_,inf,z,-,hinf,hsz,-⟩:=(hT.get hei).ok;obtain⟨ad,cap,hv,h0,hlt⟩:=hr.toRow hrow hn;refine runv ?_;simp only[hx,hix,CV.ev,Sc.ev,hv,Zii];rw[Zyv hd hinf h0 hlt,hsz,hks];simp
  cases h
 ·
  split at h
  ·rename_i t x i _ _ _ a k ix ht hc hi;have hx:=hg _ _ hc;have hix:=hg _ _ hi;simp only[CV.ev,Sc.ev]at hx hix;obtain⟨d,hd,ht⟩:=hT.tag ht;have:=Zcg ht;subst this;simp only[ϐ.injEq,ϒ.injEq]at h;obtain⟨rfl,rfl⟩:=h;obtain⟨n1,n2⟩:=hn.app;have n2:(ix.ev J).toI<(a.ev J).toS.length:=of_decide_eq_true (n2 _ (qy12.2 rfl));refine runv ?_;simp only[hx,hix,CV.ev,Sc.ev,X.ev,V.toI_i];exact Z17a hd (Z1i n1) n2
  cases h
 ·
  split at h
  ·rename_i t parts _ ag ks zs bytes fl eqs ht;simp only[ϓ,ϑ,ϐ.injEq,ϒ.injEq]at h;obtain⟨ps,hps,cs,hcs,rfl,rfl⟩:=h;obtain⟨d,inf,z,hd,hinf,-,-,hz,hzc,hzb,-,-,htag,-,-⟩:=(hT.get ht).ok;obtain⟨fs,rfl,hlen,hfl⟩:=Zde htag;refine runv ?_;have hfill:=Z118 (J:=J) (fl:=fl) (place:=λn=>((fl.map λp=>(p.1,p.2.2.1)).toArray)[n]?) (λn p hp=>by simp[hp]) ps zs cs hcs;have hpl:=λG hG=>Z119 w hfl hlen G hG;have hparts:parts.map (λ(p:Nat×Operand)=>(p.1,e p.2))=(ps.map λp=>(p.1,CV.ev J p.2)).toArray:=by
    have:=Zlz hg _ _ hps;apply Array.ext';simpa using this
   have hz0:z.cells=(zs.map (Sc.ev J)).toArray:=by apply Array.ext';rw[hzc,Z4e (J':=J) (λk hk=>O) zs hzb]
   exact Z17i hd hinf hz hz0 hpl hparts hfill
  cases h
 ·
  split at h
  ·
   rename_i c _ _ _ x t hcal hargs htys;obtain⟨callee,args,argTypes⟩:=c;obtain⟨args⟩:=args;obtain⟨argTypes⟩:=argTypes;simp only[]at hcal hargs htys;subst hcal hargs htys;split at h
   ·rename_i a ht hc;have hx:=hg _ _ hc;simp only[CV.ev,Sc.ev]at hx;obtain⟨d,hd,ht⟩:=hT.tag ht;have:=Zcg ht;subst this;simp only[ϐ.injEq,ϒ.injEq]at h;obtain⟨rfl,rfl⟩:=h;simp[Builtin.len_,go_sem,hx,run_underlying hd,CV.ev,Sc.ev,X.ev,goInt]
   ·rename_i e' v ht hc;have hx:=hg _ _ hc;simp only[CV.ev,Sc.ev,X.ev]at hx;obtain⟨d,hd,ht⟩:=hT.tag ht;have:=Z2w ht;subst this;simp only[ϓ,ϑ,ϐ.injEq,ϒ.injEq]at h;obtain⟨⟨ks,r⟩,hrow,rfl,rfl⟩:=h;obtain⟨_,a,cap,hv,_,_⟩:=Z4o hr hrow;rw[hv]at hx;simp[Builtin.len_,go_sem,hx,run_underlying hd,CV.ev,Sc.ev,X.ev,goInt]
   ·rename_i e' ht hc;have hx:=hg _ _ hc;simp only[CV.ev,Sc.ev]at hx;obtain⟨d,hd,ht⟩:=hT.tag ht;have:=Z2w ht;subst this;simp only[ϐ.injEq,ϒ.injEq]at h;obtain⟨rfl,rfl⟩:=h;simp[Builtin.len_,go_sem,hx,run_underlying hd,CV.ev,Sc.ev,X.ev,goInt]
   cases h
  ·
   rename_i c _ _ _ x y hcal hargs;obtain⟨callee,args,argTypes⟩:=c;obtain⟨args⟩:=args;simp only[]at hcal hargs;subst hcal hargs;split at h
   ·rename_i hc hc';have hx:=hg _ _ hc;have hy:=hg _ _ hc';simp only[CV.ev,Sc.ev]at hx hy;simp only[ϐ.injEq,ϒ.injEq]at h;obtain⟨rfl,rfl⟩:=h;simp[Builtin.min_,Builtin.min2,go_sem,hx,hy,CV.ev,Sc.ev,X.ev]
   cases h
  cases h
 ·
  split at h
  ·rename_i hc;have hx:=hg _ _ hc;simp only[CV.ev]at hx;refine runv ?_;simp only[hx];exact Zqj hT hr h hn
  cases h
 cases h
