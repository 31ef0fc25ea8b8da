/- By an AI agent. -/
import Derived.Test.YtonpnhfekobmdaaGreatDoorB04
set_option linter.all false
set_option maxHeartbeats 20000000
namespace Go.Sx
open Go
def Ztn(P:Program)(f:Field):Option (Nat×Nat×Nat×Bool) :=
 if f.name = "_" then none else
 match P.underlying f.type,P.info? f.type with
 | some d,some i=>some (f.offset,f.type,i.size,Z1d d)
 | _,_=>none
def Zbr(P:Program):List Field->Option (List (Nat×Nat×Nat×Bool))
 | []=>some []
 | f::fs=>do let a <- Ztn P f;let r <- Zbr P fs;some (a::r)
def tgOf(P:Program):TypeDesc->Tg
 | .int k=>.int k
 | .bool=>.bool
 | .string=>.str
 | .struct fs=>match Zbr P fs.toList with|some l=>.strct l|none=>.other
 | .slice e=>.slice e
 | .pointer e=>.ptr e
 | _=>.other
def kdOf:Value->Kd
 | .int k _=>.int k
 | .bool _=>.bool
 | .string _=>.str
 | _=>.oth
def scsV:List Value->Option (List Sc)
 | []=>some []
 | v::vs=>do let a <- Sc.ofV v;let r <- scsV vs;some (a::r)
def Zhj:Value->Bool | .agg _=>true|_=>false
def Zrx:Sc->Bool | .int .. | .bool _ | .str _=>true|_=>false
def mkTI(P:Program)(t:Nat):Option TI :=
 match P.underlying t,P.info? t with
 | some d,some inf=>match inf.zero with
  | some z=>match scsV z.cells.toList with
   | some zs=>if inf.size=zs.length/\Zhj z=Z1d d then some { agg:=Z1d d,ks:=z.cells.toList.map kdOf,zs:=zs,bytes:=inf.bytes,tag:=tgOf P d,eqs:=Z1d d && zs.all Zrx && !P.stoodInHeld t && !P.eqGuardType P.depth t }else none
   | none=>none
  | none=>none
 | _,_=>none
theorem Zry{J:List V}:∀{vs:List Value} {zs:List Sc},scsV vs=some zs->zs.map (Sc.ev J)=vs/\zs.all (Sc.bd 0)=true:=by
 intro vs;induction vs with
 | nil=>intro zs h;simp[scsV]at h;subst h;simp
 | cons v vs ih =>
  intro zs h;simp only[scsV,Option.bind_eq_bind,Option.bind_eq_some_iff,Option.some.injEq]at h;obtain⟨a,ha,r,hr,rfl⟩:=h;obtain⟨i1,i2⟩:=ih hr;refine⟨by simp[Sc.ofV_ok ha,i1],?_⟩;simp only[List.all_cons,Bool.and_eq_true];refine⟨?_,i2⟩;unfold Sc.ofV at ha;split at ha<;>simp only[Option.some.injEq,reduceCtorEq]at ha<;>subst ha<;>rfl
theorem Zlt{P:Program}:∀{fs:List Field} {l:List (Nat×Nat×Nat×Bool)},Zbr P fs=some l->l.length=fs.length /\ ∀(n:Nat) p,l[n]?=some p->∃f d i,fs[n]?=some f/\f.offset=p.1/\f.type=p.2.1/\(f.name ≠ "_")/\P.underlying f.type=some d/\P.info? f.type=some i/\i.size=p.2.2.1/\Z1d d=p.2.2.2:=by
 intro fs;induction fs with
 | nil=>intro l h;simp[Zbr]at h;subst h;simp
 | cons f fs ih =>
  intro l h;simp only[Zbr,Option.bind_eq_bind,Option.bind_eq_some_iff,Option.some.injEq]at h;obtain⟨a,ha,r,hr,rfl⟩:=h;obtain⟨i1,i2⟩:=ih hr;refine⟨by simp[i1],λn p hp=>?_⟩;cases n with
  | zero =>
   simp at hp;subst hp;unfold Ztn at ha;split at ha
   ·cases ha
   ·rename_i hn;split at ha
    ·rename_i d i h1 h2;simp at ha;subst ha;exact⟨f,d,i,rfl,rfl,rfl,hn,h1,h2,rfl,rfl⟩
    ·cases ha
  | succ n=>simpa using i2 n p (by simpa using hp)
theorem Zrz{P:Program}{t:Nat}{i:TI}(h:mkTI P t=some i):TIok P t i:=by
 unfold mkTI at h;split at h
 ·rename_i d inf hd hinf;split at h
  ·rename_i z hz;split at h
   ·rename_i zs hzs;split at h
    ·rename_i hcond;obtain⟨h1,h2⟩:=hcond;simp at h;subst h;obtain⟨s1,s2⟩:=Zry (J:=[]) hzs;have hlen:zs.length=z.cells.toList.length:=by rw[<- s1];simp
     have hzl:Z1d d=false->zs.length=1:=by intro hg;rw[hg]at h2;rw[hlen];cases z<;>simp[Zhj]at h2<;>rfl
     refine⟨⟨d,inf,z,hd,hinf,by simp[h1,hlen],rfl,hz,s1.symm,s2,by simp[hlen],rfl,?_,hzl,?_⟩,λhe=>?_⟩
     ·cases d<;>simp only[tgOf,Z5u];rename_i fs;cases hf:Zbr P fs.toList with
      | none=>simp only[Z5u]
      | some l =>
       obtain⟨f1,f2⟩:=Zlt hf;simp only[Z5u];exact⟨by simpa using f1,λn p hp=>by simpa using f2 n p hp⟩
     ·cases hg:Z1d d with
      | true =>
       rw[hg]at h2;cases z<;>simp[Zhj]at h2;rename_i cs;simp only[CV.ev,s1];rfl
      | false =>
       have:=hzl hg
       match zs,this with
       | [s],_ =>
        rw[hg]at h2;have hs:[s.ev []]=z.cells.toList:=by simpa using s1
        cases z<;>simp[Zhj]at h2<;>simp[Value.cells]at hs<;>simp[CV.ev,hs]
     ·simp only[Bool.and_eq_true,Bool.not_eq_true']at he;exact⟨he.1.2,he.2⟩
    ·cases h
   ·cases h
  ·cases h
 ·cases h
def Env.check(P:Program)(E:Env):Bool:=E.T.all (λp=>match mkTI P p.1 with|some i=>{ i with eqs:=i.eqs && p.2.eqs } == p.2|none=>false) && E.fs.all (Z9u P) && P.follows .mixedOrders
theorem Env.ok{P:Program}{E:Env}(h:E.check P=true)(hin:∀p∈E.inl,P.funcs[p.1]?=some p.2):EnvOK P E:=by
 unfold Env.check at h;simp only[Bool.and_eq_true,List.all_eq_true]at h;refine⟨λp hp=>?_,h.1.2,h.2,hin⟩
 ·have:=h.1.1 p hp;split at this
  ·rename_i i hi;have hk:=Zrz hi;simp only[beq_iff_eq]at this;rw[<- this];exact⟨hk.ok,λhe=>hk.cmp (by simp only[Bool.and_eq_true]at he;exact he.1)⟩
  ·cases this
def Zlu(E:Env)(fn:Func)(n:Nat)(args:List SV)(hp:List Ent):Tree:=Zqn E fn.ntmps fn.results.toList (fn.body.getD .skip) n args hp
theorem Zhk{P:Program}{E:Env}{B:Base}{R:Ending->World->Prop}(hE:EnvOK P E){f:FuncId}{fn:Func}{args:List SV}{J:List V}{hp:List Ent}{w:World}{t:Tree}{n:Nat}(hf:P.funcs[f]?=some fn) (ht:Zlu E fn n args hp=t) (hn:J.length=n) (hb:fn.body.isSome=true) (hrel:Rel B J hp w) (hbh:hp.all (Ent.bd n)=true) (hba:args.all (λs=>s.bd n && s.isVal)=true) (h:t.goal ⟨P,B,R⟩ J []):Calls P f (args.map (SV.ev J)).toArray w R:=by
 subst hn ht;refine Ztm (C:=⟨P,B,R⟩) hE (c:=fn.body.getD .skip) hf ?_ hrel hbh hba h;cases hb':fn.body with
 | none=>rw[hb']at hb;cases hb
 | some c=>rfl
theorem Rel.start(w:World)(J:List V):Rel ⟨[],w⟩ J [] w:=⟨Mod.refl _ _,by simp,by simp,List.Pairwise.nil⟩
theorem Z1{P:Program}{f:FuncId}{as as':Array Value}{w:World}{R:Ending->World->Prop}(h:Calls P f as w R)(he:as=as'):Calls P f as' w R:=he▸h
mutual
def posX:X->List X
 | .and a b=>posX a++posX b
 | .not x=>negX x
 | x=>[x]
def negX:X->List X
 | .or a b=>negX a++negX b
 | .not x=>posX x
 | x=>[.not x]
end
theorem Zs0(J:List V):∀x:X,(X.P J x->∀y∈posX x,X.P J y)/\(¬X.P J x->∀y∈negX x,X.P J y):=by
 intro x;induction x with
 | and a b iha ihb =>
  refine⟨λh y hy=>?_,λh y hy=>?_⟩
  ·simp only[posX,qy13]at hy;rcases hy with hy|hy
   ·exact iha.1 h.1 y hy
   ·exact ihb.1 h.2 y hy
  ·simp only[negX,qy12]at hy;subst hy;exact h
 | or a b iha ihb =>
  refine⟨λh y hy=>?_,λh y hy=>?_⟩
  ·simp only[posX,qy12]at hy;subst hy;exact h
  ·simp only[negX,qy13]at hy;simp only[X.P,not_or]at h;rcases hy with hy|hy
   ·exact iha.2 h.1 y hy
   ·exact ihb.2 h.2 y hy
 | not a ih =>
  refine⟨λh y hy=>?_,λh y hy=>?_⟩
  ·simp only[posX]at hy;exact ih.2 h y hy
  ·simp only[negX]at hy;exact ih.1 (qy9.1 h) y hy
 | _=>exact⟨λh y hy=>by simp only[posX,qy12]at hy;subst hy;exact h,λh y hy=>by simp only[negX,qy12]at hy;subst hy;exact h⟩
def Z1r(K:List X):X->Bool
 | .and a b=>Z1r K a && Z1r K b
 | .or a b=>K.contains (.or a b) || Z1r K a || Z1r K b
 | .not x=>K.contains (.not x)
 | .le (.I a) (.I b)=>decide (a<=b)
 | .eqI (.I a) (.I b)=>decide (a=b)
 | .lt (.I a) (.I b)=>decide (a<b)
 | .B b=>b
 | x=>K.contains x
theorem Z5q{K:List X}{J:List V}(hK:∀x∈K,X.P J x):∀{c:X},Z1r K c=true->X.P J c:=by
 intro c;induction c with
 | and a b iha ihb=>intro h;simp only[Z1r,Bool.and_eq_true]at h;exact⟨iha h.1,ihb h.2⟩
 | or a b iha ihb =>
  intro h;simp only[Z1r,Bool.or_eq_true]at h;rcases h with(h|h)|h
  ·exact hK _ (by simpa using h)
  ·exact .inl (iha h)
  ·exact .inr (ihb h)
 | le a b =>
  intro h;unfold Z1r at h;split at h<;>(try cases ‹X.le _ _=_›)
  ·simpa[X.P,X.ev]using h
  ·exact hK _ (by simpa using h)
 | eqI a b =>
  intro h;unfold Z1r at h;split at h<;>(try cases ‹X.eqI _ _=_›)
  ·simpa[X.P,X.ev]using h
  ·exact hK _ (by simpa using h)
 | lt a b =>
  intro h;unfold Z1r at h;split at h<;>(try cases ‹X.lt _ _=_›)
  ·simpa[X.P,X.ev]using h
  ·exact hK _ (by simpa using h)
 | B b=>intro h;simpa[Z1r,X.P]using h
 | _=>intro h;exact hK _ (by simpa[Z1r]using h)
def Z29(K:List X):X->Bool
 | .and a b=>Z29 K a || Z29 K b
 | .or a b=>Z29 K a && Z29 K b
 | .not x=>Z1r K x
 | .eqI (.I a) (.I b)=>!(decide (a=b))
 | .lt (.I a) (.I b)=>!(decide (a<b))
 | .B b=>!b
 | x=>K.contains (.not x)
theorem Zjg{K:List X}{J:List V}(hK:∀x∈K,X.P J x):∀{c:X},Z29 K c=true->¬X.P J c:=by
 intro c;induction c with
 | and a b iha ihb =>
  intro h hp;simp only[Z29,Bool.or_eq_true]at h;rcases h with h|h
  ·exact iha h hp.1
  ·exact ihb h hp.2
 | or a b iha ihb =>
  intro h hp;simp only[Z29,Bool.and_eq_true]at h;rcases hp with hp|hp
  ·exact iha h.1 hp
  ·exact ihb h.2 hp
 | not a ih=>intro h hp;exact hp (Z5q hK (by simpa only[Z29]using h))
 | eqI a b =>
  intro h;unfold Z29 at h;split at h<;>(try cases ‹X.eqI _ _=_›)
  ·simpa[X.P,X.ev]using h
  ·exact hK (.not _) (by simpa using h)
 | lt a b =>
  intro h;unfold Z29 at h;split at h<;>(try cases ‹X.lt _ _=_›)
  ·simpa[X.P,X.ev]using h
  ·exact hK (.not _) (by simpa using h)
 | B b=>intro h;simpa[Z29,X.P]using h
 | _=>intro h;exact hK (.not _) (by simpa[Z29]using h)
def Zlv(n:Nat)(l K:List X):List X:=(l.filter λx=>x.bd n)++K
def tidy(keep:Bool):Nat->List X->Tree->Tree
 | n,K,.ite c t e =>
  if Z1r K c then tidy keep n K t else if((negX c).all (Z1r K) || Z29 K c)=true then tidy keep n K e
  else .ite c (tidy keep n (Zlv n (posX c) K) t) (tidy keep n (Zlv n (negX c) K) e)
 | n,K,.need c t=>if Z1r K c then tidy keep n K t else .need c (tidy keep n (Zlv n (posX c) K) t)
 | n,K,.bindN t=>.bindN (tidy keep (n+1) K t)
 | n,K,.bindV t=>.bindV (tidy keep (n+1) K t)
 | n,K,.bindO t=>if keep=true then .bindO (tidy keep (n+1) K t)else .bindV (tidy keep (n+1) K t)
 | n,K,.bindF v t=>if keep=true then .bindF v (tidy keep (n+1) K t)else .bindV (tidy keep (n+1) K t)
 | n,K,.letV v t=>.letV v (tidy keep (n+1) K t)
 | n,K,.callP g f args hp res m t=>.callP g f args hp res m (tidy keep (n+m) K t)
 | n,K,.callM f args hp mods gone ms es res m t=>.callM f args hp mods gone ms es res m (tidy keep (n+m) K t)
 | n,K,.both t e=>.both (tidy keep n K t) (tidy keep n K e)
 | n,K,.callR f args hp hp' t=>.callR f args hp hp' (tidy keep n K t)
 | n,K,.openR v ks hp t=>.openR v ks hp (tidy keep (n+1) K t)
 | n,K,.pack hp t=>.pack hp (tidy keep (n+1) K t)
 | n,K,.loop inits t=>.loop inits (tidy keep (n+inits.length) K t)
 | n,K,.join m t e=>.join m (tidy keep n K t) (tidy keep (n+m) K e)
 | _,_,t=>t
theorem Zlw(J:List V):∀x:X,((∀y∈negX x,X.P J y)->¬X.P J x)/\((∀y∈posX x,X.P J y)->X.P J x):=by
 intro x;induction x with
 | or a b iha ihb =>
  refine⟨λh hp=>?_,λh=>h _ (by simp[posX])⟩;simp only[negX,qy13]at h;rcases hp with hp|hp
  ·exact iha.1 (λy hy=>h y (.inl hy)) hp
  ·exact ihb.1 (λy hy=>h y (.inr hy)) hp
 | and a b iha ihb =>
  refine⟨λh hp=>(show ¬X.P J (.and a b) from h (.not (.and a b)) (qy12.2 rfl)) hp,λh=>?_⟩;simp only[posX,qy13]at h;exact⟨iha.2 λy hy=>h y (.inl hy),ihb.2 λy hy=>h y (.inr hy)⟩
 | not a ih =>
  refine⟨λh hp=>hp (ih.2 (by simpa only[negX]using h)),λh hp=>ih.1 (by simpa only[posX]using h) hp⟩
 | _=>exact⟨λh hp=>(show ¬X.P J _ from h (.not _) (qy12.2 rfl)) hp,λh=>h _ (qy12.2 rfl)⟩
theorem Zlx{C:Cx}{keep:Bool}:∀(t:Tree) {n:Nat} {K:List X} {J:List V} {L:List LC},J.length=n->(∀x∈K,X.P J x/\x.bd n=true)->(tidy keep n K t).goal C J L->t.goal C J L:=by
 have ext:∀{n m:Nat} {K:List X} {J vs:List V},J.length=n->n+vs.length=m->(∀x∈K,X.P J x/\x.bd n=true)->(J++vs).length=m/\∀x∈K,X.P (J++vs) x/\x.bd m=true:=by intro n m K J vs hn hm hK;refine⟨by simp[hn,hm],λx hx=>?_⟩;obtain⟨h1,h2⟩:=hK x hx;refine⟨?_,X.bd_mono (by omega) x h2⟩;rw[X.P_iff]at h1⊢;rw[<- X.ev_bd (J:=J) (by rw[<- hn];exact Z11.app J vs) x h2];exact h1
 have lrn:∀{n:Nat} {l K:List X} {J:List V},(∀x∈K,X.P J x/\x.bd n=true)->(∀x∈l,X.P J x)->∀x∈Zlv n l K,X.P J x/\x.bd n=true:=by
  intro n l K J hK hl x hx;simp only[Zlv,qy13,List.mem_filter]at hx;rcases hx with⟨h1,h2⟩|hx
  ·exact⟨hl x h1,h2⟩
  ·exact hK x hx
 intro t;induction t with
 | ite c t e iht ihe =>
  intro n K J L hn hK h;simp only[tidy]at h;split at h
  ·rename_i hi;have hc:=Z5q (λx hx=>(hK x hx).1) hi;exact⟨λ_=>iht hn hK h,λhno=>absurd hc hno⟩
  ·split at h
   ·rename_i hi;have hc:¬X.P J c:=by
     rcases Bool.or_eq_true_iff.1 hi with hi|hi
     ·exact(Zlw J c).1 (λy hy=>Z5q (λx hx=>(hK x hx).1) (List.all_eq_true.1 hi y hy))
     ·exact Zjg (λx hx=>(hK x hx).1) hi
    exact⟨λhyes=>absurd hyes hc,λ_=>ihe hn hK h⟩
   ·exact⟨λhp=>iht hn (lrn hK ((Zs0 J c).1 hp)) (h.1 hp),λhp=>ihe hn (lrn hK ((Zs0 J c).2 hp)) (h.2 hp)⟩
 | need c t ih =>
  intro n K J L hn hK h;simp only[tidy]at h;split at h
  ·rename_i hi;exact⟨Z5q (λx hx=>(hK x hx).1) hi,ih hn hK h⟩
  ·exact⟨h.1,ih hn (lrn hK ((Zs0 J c).1 h.1)) h.2⟩
 | bindN t ih=>intro n K J L hn hK h;exact λb=>have e:=ext (vs:=[.n b]) hn rfl hK;ih e.1 e.2 (h b)
 | bindV t ih=>intro n K J L hn hK h;exact λb=>have e:=ext (vs:=[.v b]) hn rfl hK;ih e.1 e.2 (h b)
 | bindO t ih =>
  intro n K J L hn hK h;simp only[tidy]at h;split at h
  ·exact λb hb=>have e:=ext (vs:=[.v b]) hn rfl hK;ih e.1 e.2 (h b hb)
  ·exact λb _=>have e:=ext (vs:=[.v b]) hn rfl hK;ih e.1 e.2 (h b)
 | bindF v t ih =>
  intro n K J L hn hK h;simp only[tidy]at h;split at h
  ·exact λb hb=>have e:=ext (vs:=[.v b]) hn rfl hK;ih e.1 e.2 (h b hb)
  ·exact λb _=>have e:=ext (vs:=[.v b]) hn rfl hK;ih e.1 e.2 (h b)
 | letV x t ih=>intro n K J L hn hK h;exact have e:=ext (vs:=[x.ev J]) hn rfl hK;ih e.1 e.2 h
 | both t e iht ihe=>intro n K J L hn hK h;exact⟨iht hn hK h.1,ihe hn hK h.2⟩
 | callP g f args hp res m t ih =>
  intro n K J L hn hK h;obtain⟨vs,hl,hc,h⟩:=h;have e:=ext (vs:=vs) (m:=n+m) hn (by rw[hl]) hK;exact⟨vs,hl,hc,ih e.1 e.2 h⟩
 | callM f args hp mods gone ms es res m t ih =>
  intro n K J L hn hK h w hr;refine(h w hr).mono ?_;rintro e w1 ⟨vs,hl,h1,h2,h3,h4,h5,h6⟩;have e:=ext (vs:=vs) (m:=n+m) hn (by rw[hl]) hK;exact⟨vs,hl,h1,h2,h3,h4,h5,ih e.1 e.2 h6⟩
 | callR f args hp hp' t ih=>intro n K J L hn hK h;exact⟨h.1,ih hn hK h.2⟩
 | openR v ks hp t ih =>
  intro n K J L hn hK h;obtain⟨rows,h1,h2⟩:=h;have e:=ext (vs:=[.r rows]) hn rfl hK;exact⟨rows,h1,ih e.1 e.2 h2⟩
 | pack hp t ih =>
  intro n K J L hn hK h;obtain⟨A,h1,h2,h3⟩:=h;have e:=ext (vs:=[.a A]) hn rfl hK;exact⟨A,h1,h2,ih e.1 e.2 h3⟩
 | loop inits t ih =>
  intro n K J L hn hK h;obtain⟨I,μ,h1,h2⟩:=h;refine⟨I,μ,h1,λvs hl hI=>?_⟩;have e:=ext (vs:=vs) (m:=n+inits.length) hn (by rw[hl]) hK;exact ih e.1 e.2 (h2 vs hl hI)
 | join m t e iht ihe =>
  intro n K J L hn hK h;obtain⟨I,h1,h2⟩:=h;refine⟨I,iht hn hK h1,λvs hl hI=>?_⟩;have e:=ext (vs:=vs) (m:=n+m) hn (by rw[hl]) hK;exact ihe e.1 e.2 (h2 vs hl hI)
 | _=>intro n K J L hn hK h;exact h
def Z2(E:Env)(fn:Func)(n:Nat)(args:List SV)(hp:List Ent):Tree:=tidy false n [] (Zlu E fn n args hp)
def Zly(E:Env)(fn:Func)(n:Nat)(args:List SV)(hp:List Ent):Tree:=tidy true n [] (Zlu E fn n args hp)
theorem Z5{P:Program}{E:Env}{B:Base}{R:Ending->World->Prop}(hE:EnvOK P E){f:FuncId}{fn:Func}{args:List SV}{J:List V}{hp:List Ent}{w:World}{t:Tree}{n:Nat}(hf:P.funcs[f]?=some fn) (ht:Z2 E fn n args hp=t) (hn:J.length=n) (hb:fn.body.isSome=true) (hrel:Rel B J hp w) (hbh:hp.all (Ent.bd n)=true) (hba:args.all (λs=>s.bd n && s.isVal)=true) (h:t.goal ⟨P,B,R⟩ J []):Calls P f (args.map (SV.ev J)).toArray w R :=
 Zhk hE hf rfl hn hb hrel hbh hba (Zlx (K:=[]) _ hn (λx hx=>absurd hx List.not_mem_nil) (by rw[<- ht]at h;exact h))
theorem Zlz{P:Program}{E:Env}{B:Base}{R:Ending->World->Prop}(hE:EnvOK P E){f:FuncId}{fn:Func}{args:List SV}{J:List V}{hp:List Ent}{w:World}{t:Tree}{n:Nat}(hf:P.funcs[f]?=some fn) (ht:Zly E fn n args hp=t) (hn:J.length=n) (hb:fn.body.isSome=true) (hrel:Rel B J hp w) (hbh:hp.all (Ent.bd n)=true) (hba:args.all (λs=>s.bd n && s.isVal)=true) (h:t.goal ⟨P,B,R⟩ J []):Calls P f (args.map (SV.ev J)).toArray w R :=
 Zhk hE hf rfl hn hb hrel hbh hba (Zlx (K:=[]) _ hn (λx hx=>absurd hx List.not_mem_nil) (by rw[<- ht]at h;exact h))
theorem Z4{P:Program}{E:Env}{R:Ending->World->Prop}(hE:EnvOK P E){f:FuncId}{fn:Func}{args:List SV}{J:List V}{w:World}{t:Tree}{n:Nat}(hf:P.funcs[f]?=some fn) (ht:Z2 E fn n args []=t) (hn:J.length=n) (hb:fn.body.isSome=true) (hba:args.all (λs=>s.bd n && s.isVal)=true) (h:t.goal ⟨P,⟨[],w⟩,R⟩ J []):Calls P f (args.map (SV.ev J)).toArray w R :=
 Z5 hE hf ht hn hb (Rel.start w J) rfl hba h
theorem Rel.start2{w:World}{J:List V}{hp:List Ent}(h:∀e∈hp,e.holds J w/\e.wr=false):Rel ⟨[],w⟩ J hp w :=
 ⟨Mod.refl _ _,λe he=>(h e he).1,λe he hw=>(by rw[(h e he).2]at hw;cases hw),List.Pairwise.imp_of_mem (λ{a b} ha hb _ hw=>(by rcases hw with hw|hw;rw[(h a ha).2]at hw;cases hw;rw[(h b hb).2]at hw;cases hw)) (List.pairwise_of_forall (R:=λ_ _=>True) (λ_ _=>trivial))⟩
theorem reads.sc1{w:World}{v:Value}{ks:List Kd}{rows:List (List Value)}(h:reads w v ks rows):sc1 v=v:=by obtain⟨_,a,cap,rfl,_⟩:=h;rfl
theorem Rel.at_{B:Base}{J:List V}{hp:List Ent}{w:World}(h:Rel B J hp w)(i:Nat){e:Ent}(he:hp[i]?=some e):e.holds J w:=h.holds e (qy6 he)
def Asrt.tt:Asrt:=⟨λ_=>True,λ_=>False,λ_ _ _ _=>trivial,λ_ _ _ h=>h.elim⟩
theorem Zcp{J:List V}{v:Nat}{es:List Ent}(hv:J.getD v (.i 0)=.a Asrt.tt)(h:Zv J es):Zv J (.st v::es) :=
 List.pairwise_cons.2 ⟨λe _ _ k hk _=>by simp only[Ent.fp,hv]at hk;exact hk,h⟩
theorem Z6{J:List V}{e:Ent}:Zv J [e]:=List.pairwise_singleton _ _
theorem Z7{J:List V}:Zv J []:=List.Pairwise.nil
theorem Zv.disj{J:List V}{hp:List Ent}(h:Zv J hp){i j:Nat}{a b:Ent}(hi:hp[i]?=some a)(hj:hp[j]?=some b)(hij:i≠j)(hw:a.wr=true\/b.wr=true){k:Nat}(h1:a.fp J k)(h2:b.fp J k):False:=by
 unfold Zv at h;rw[List.pairwise_iff_getElem]at h;obtain⟨li,ei⟩:=List.getElem?_eq_some_iff.1 hi;obtain⟨lj,ej⟩:=List.getElem?_eq_some_iff.1 hj;rcases Nat.lt_or_ge i j with hlt|hge
 ·have:=h i j li lj hlt;rw[ei,ej]at this;exact this hw k h1 h2
 ·have:=h j i lj li (by omega);rw[ei,ej]at this;exact this hw.symm k h2 h1
theorem Rel.fresh{w w':World}{J:List V}{hp:List Ent}(hr:Rel ⟨[],w⟩ J hp w')(i:Nat){v ty:Nat}{ks:List Kd}{r:X}(h:hp[i]?=some (.row v ty ks r)):∀k,Z3 (J.getD v (.i 0)).toV k->w.heap.size<=k:=λk hk=>by
 rcases hr.own _ (qy6 h) rfl k hk with h|h
 ·exact h
 ·simp at h
end Go.Sx
namespace Go.Sx
section
universe u v
variable {α:Type u} {β:Type v} {a:α} {l m:List α} {d:α} {n:Nat} {f:α->β}
theorem QA(n:Int):(V.i n).toI=n:=rfl
theorem QB(n:Bool):(V.b n).toB=n:=rfl
theorem QC(n:List UInt8):(V.s n).toS=n:=rfl
theorem QD(n:List (List Value)):(V.r n).toR=n:=rfl
theorem QE(n:Value):(V.v n).toV=n:=rfl
theorem QF(n:Nat):(V.n n).toN=n:=rfl
theorem QG(n:List Value):(V.l n).toL=n:=rfl
theorem QH:(a::l)[0]?=some a:=rfl
theorem QI:(a::l)[n+1]?=l[n]?:=rfl
theorem QJ:(a::l).length=l.length+1:=rfl
theorem QK:([]:List α).length=0:=rfl
theorem QL:(a::l)++m=a::(l++m):=rfl
theorem QM:[]++l=l:=rfl
end
theorem qE{hp:List Ent}{J:List V}{j:Nat}{e:Ent}(i:Nat)(h:hp[i]?=some e)(hw:e.wr=false)(hf:e.fp J j):∃e∈hp,e.wr=false/\e.fp J j:=⟨e,qy6 h,hw,hf⟩
theorem qz:(∀(α:Type) (a d:α) (l:List α),(a::l).getD 0 d=a)/\(∀(α:Type) (a d:α) (l:List α) (n:Nat),(a::l).getD (n+1) d=l.getD n d)/\(∀(α:Type) (β:Type) (a:α) (l:List α) (f:α->β),List.map f (a::l)=f a::List.map f l)/\(∀(α:Type) (β:Type) (f:α->β),List.map f []=[])/\(∀(n:Nat),0+n=n):=⟨λ_ _ _ _=>rfl,λ_ _ _ _ _=>rfl,λ_ _ _ _ _=>rfl,λ_ _ _=>rfl,Nat.zero_add⟩
end Go.Sx
namespace Go.Sx
def QQ:=And.intro @CV.ev.eq_1 (And.intro @CV.ev.eq_2 (And.intro @CV.ev.eq_3 (And.intro @SV.ev.eq_1 (And.intro @SV.ev.eq_2 (And.intro @SV.ev.eq_3 (And.intro @SV.ev.eq_4 (And.intro @Sc.ev.eq_1 (And.intro @Sc.ev.eq_2 (And.intro @Sc.ev.eq_3 (And.intro @Sc.ev.eq_4 (And.intro @Sc.ev.eq_5 (And.intro @Sc.ev.eq_6 (And.intro @Sc.ev.eq_7 (And.intro @Sc.ev.eq_8 (And.intro @Sc.ev.eq_9 (And.intro @Tree.goal.eq_1 (And.intro @Tree.goal.eq_2 (And.intro @Tree.goal.eq_3 (And.intro @Tree.goal.eq_4 (And.intro @Tree.goal.eq_5 (And.intro @Tree.goal.eq_6 (And.intro @Tree.goal.eq_7 (And.intro @Tree.goal.eq_8 (And.intro @Tree.goal.eq_9 (And.intro @Tree.goal.eq_10 (And.intro @Tree.goal.eq_11 (And.intro @Tree.goal.eq_12 (And.intro @Tree.goal.eq_13 (And.intro @Tree.goal.eq_14 (And.intro @Tree.goal.eq_15 (And.intro @Tree.goal.eq_16 (And.intro @Tree.goal.eq_17 (And.intro @Tree.goal.eq_18 (And.intro @Tree.goal.eq_19 (And.intro @Tree.goal.eq_20 (And.intro @X.P.eq_1 (And.intro @X.P.eq_2 (And.intro @X.P.eq_3 (And.intro @X.P.eq_4 (And.intro @X.P.eq_5 (And.intro @X.P.eq_6 (And.intro @X.P.eq_7 (And.intro @X.P.eq_8 (And.intro @X.P.eq_9 (And.intro @X.P.eq_10 (And.intro @X.ev.eq_1 (And.intro @X.ev.eq_2 (And.intro @X.ev.eq_3 (And.intro @X.ev.eq_4 (And.intro @X.ev.eq_5 (And.intro @X.ev.eq_6 (And.intro @X.ev.eq_7 (And.intro @X.ev.eq_8 (And.intro @X.ev.eq_9 (And.intro @X.ev.eq_10 (And.intro @X.ev.eq_11 (And.intro @X.ev.eq_12 (And.intro @X.ev.eq_13 (And.intro @X.ev.eq_14 (And.intro @X.ev.eq_15 (And.intro @X.ev.eq_16 (And.intro @X.ev.eq_17 (And.intro @X.ev.eq_18 (And.intro @X.ev.eq_19 (And.intro @X.ev.eq_20 (And.intro @X.ev.eq_21 (And.intro @X.ev.eq_22 (And.intro @X.ev.eq_23 (And.intro @X.ev.eq_24 (And.intro @X.ev.eq_25 (And.intro @X.ev.eq_26 (And.intro @X.ev.eq_27 (And.intro @X.ev.eq_28 (And.intro @X.ev.eq_29 (And.intro @X.ev.eq_30 (And.intro @X.ev.eq_31 (And.intro @X.ev.eq_32 (And.intro @X.ev.eq_33 (And.intro @X.ev.eq_34 (And.intro @X.ev.eq_35 (And.intro @X.ev.eq_36 (And.intro @X.ev.eq_37 (And.intro @X.ev.eq_38 (And.intro @X.ev.eq_39 (And.intro @X.ev.eq_40 (And.intro @X.ev.eq_41 (And.intro @X.ev.eq_42 (And.intro @X.ev.eq_43 (And.intro @X.ev.eq_44 (And.intro @X.ev.eq_45 (And.intro @X.ev.eq_46 (And.intro @X.ev.eq_47 (And.intro @X.ev.eq_48 (And.intro @X.ev.eq_49 (And.intro @X.ev.eq_50 (And.intro @X.ev.eq_51 (And.intro @X.ev.eq_52 (And.intro @X.ev.eq_53 (And.intro @X.ev.eq_54 (And.intro @X.ev.eq_55 (And.intro @qz.1 (And.intro @qz.2.1 (And.intro @qz.2.2.1 (And.intro @qz.2.2.2.1 (And.intro @qz.2.2.2.2 (And.intro QA (And.intro QB (And.intro QC (And.intro QD (And.intro QE (And.intro QF (And.intro QG (And.intro @QH.{0} (And.intro @QI.{0} (And.intro @QJ.{0} (And.intro @QK.{0} (And.intro @QL.{0} @QM.{0})))))))))))))))))))))))))))))))))))))))))))))))))))))))))))))))))))))))))))))))))))))))))))))))))))))))))))))))))))))
