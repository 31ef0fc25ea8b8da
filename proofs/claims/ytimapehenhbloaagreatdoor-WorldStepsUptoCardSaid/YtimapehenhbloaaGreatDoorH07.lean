/- By an AI agent. -/
import Derived.Test.YtimapehenhbloaaGreatDoorH06
set_option linter.all false
set_option maxHeartbeats 20000000
set_option maxRecDepth 100000
open And renaming intro→ϐ
open Bool renaming and_eq_true→ϑ,true→ϒ,or_eq_true→Ϣ,false→ϣ
open Option renaming some→ϓ,bind_eq_some_iff→ϖ,bind_eq_bind→ϗ,some→Ϡ
open List renaming pairwise_cons→ϔ,getElem?_eq_some_iff→ϕ,Pairwise→Ϙ,mem_filterMap→ϙ,pairwise_map→Ϛ,all_eq_true→Ϝ,not_mem_nil→Ϟ,map→Ϥ
namespace Go.Sx
open Go
def Z1h7(P:Program)(f:Field):Option (Nat×Nat×Nat×Bool) :=
 if f.name = "_" then none else
 match P.underlying f.type,P.info? f.type with
 | some d,ϓ i=>ϓ (f.offset,f.type,i.size,Z2m d)
 | _,_=>none
def Zma(P:Program):List Field->Option (List (Nat×Nat×Nat×Bool))
 | []=>ϓ []
 | f::fs=>do let a <- Z1h7 P f;let r <- Zma P fs;ϓ (a::r)
def tgOf(P:Program):TypeDesc->Tg
 | .int k=>.int k
 | .bool=>.bool
 | .string=>.str
 | .struct fs=>match Zma P fs.toList with|some l=>.strct l|none=>.other
 | .slice e=>.slice e
 | .pointer e=>.ptr e
 | _=>.other
def kdOf:Value->Kd
 | .int k _=>.int k
 | .bool _=>.bool
 | .string _=>.str
 | _=>.oth
def scsV:List Value->Option (List Sc)
 | []=>ϓ []
 | v::vs=>do let a <- Sc.ofV v;let r <- scsV vs;ϓ (a::r)
def Zwf:Value->Bool | .agg _=>ϒ|_=>ϣ
def Z1dn:Sc->Bool | .int .. | .bool _ | .str _=>ϒ|_=>ϣ
def mkTI(P:Program)(t:Nat):Option TI :=
 match P.underlying t,P.info? t with
 | some d,ϓ inf=>match inf.zero with
  | some z=>match scsV z.cells.toList with
   | some zs=>if inf.size=zs.length/\Zwf z=Z2m d then ϓ { agg:=Z2m d,ks:=z.cells.toList.map kdOf,zs:=zs,bytes:=inf.bytes,tag:=tgOf P d,eqs:=Z2m d && zs.all Z1dn && !P.stoodInHeld t && !P.eqGuardType P.depth t }else none
   | none=>none
  | none=>none
 | _,_=>none
variable{J:List V}
def Z1do:∀{vs:List Value} {zs:List Sc},scsV vs=ϓ zs->zs.map (Sc.ev J)=vs/\zs.all (Sc.bd 0)=ϒ:=by
 intro vs;induction vs with
 | nil=>intro zs h;simp[scsV]at h;subst h;simp
 | cons v vs ih =>
  intro zs h;simp only[scsV,ϗ,ϖ,Ϡ.injEq]at h;obtain⟨a,ha,r,hr,rfl⟩:=h;obtain⟨i1,i2⟩:=ih hr;refine⟨by simp[Sc.ofV_ok ha,i1],?_⟩;simp only[List.all_cons,ϑ];refine⟨?_,i2⟩;unfold Sc.ofV at ha;split at ha<;>simp only[Ϡ.injEq,reduceCtorEq]at ha<;>subst ha<;>rfl
variable{P:Program}
def Z12g:∀{fs:List Field} {l:List (Nat×Nat×Nat×Bool)},Zma P fs=ϓ l->l.length=fs.length /\ ∀(n:Nat) p,l[n]?=ϓ p->∃f d i,fs[n]?=ϓ f/\f.offset=p.1/\f.type=p.2.1/\(f.name ≠ "_")/\P.underlying f.type=ϓ d/\P.info? f.type=ϓ i/\i.size=p.2.2.1/\Z2m d=p.2.2.2:=by
 intro fs;induction fs with
 | nil=>intro l h;simp[Zma]at h;subst h;simp
 | cons f fs ih =>
  intro l h;simp only[Zma,ϗ,ϖ,Ϡ.injEq]at h;obtain⟨a,ha,r,hr,rfl⟩:=h;obtain⟨i1,i2⟩:=ih hr;refine⟨by simp[i1],λn p hp=>?_⟩;cases n with
  | zero =>
   simp at hp;subst hp;unfold Z1h7 at ha;split at ha
   ·cases ha
   rename_i hn;split at ha
   ·rename_i d i h1 h2;simp at ha;subst ha;exact⟨f,d,i,rfl,rfl,rfl,hn,h1,h2,rfl,rfl⟩
   cases ha
  | succ n=>simpa using i2 n p (by simpa using hp)
def Z1dp{t:Nat}{i:TI}(h:mkTI P t=ϓ i):TIok P t i:=by
 unfold mkTI at h;split at h
 ·rename_i d inf hd hinf;split at h
  ·rename_i z hz;split at h
   ·rename_i zs hzs;split at h
    ·rename_i hcond;obtain⟨h1,h2⟩:=hcond;simp at h;subst h;obtain⟨s1,s2⟩:=Z1do hzs;have hlen:zs.length=z.cells.toList.length:=by rw[<- s1];simp
     have hzl:Z2m d=ϣ->zs.length=1:=by intro hg;rw[hg]at h2;rw[hlen];cases z<;>simp[Zwf]at h2<;>rfl
     refine⟨⟨d,inf,z,hd,hinf,by simp[h1,hlen],rfl,hz,s1.symm,s2,by simp[hlen],rfl,?_,hzl,?_⟩,λhe=>by simp only[ϑ,Bool.not_eq_true']at he;exact⟨he.1.2,he.2⟩⟩
     ·cases d<;>simp only[tgOf,Zbz];rename_i fs;cases hf:Zma P fs.toList with
      | none=>simp only[Zbz]
      | some l =>
       obtain⟨f1,f2⟩:=Z12g hf;exact⟨by simpa using f1,by simpa using f2⟩
     cases hg:Z2m d with
     | true =>
      rw[hg]at h2;cases z<;>simp[Zwf]at h2;rename_i cs;simp only[CV.ev,s1];rfl
     | false =>
      have:=hzl hg
      match zs,this with
      | [s],_ =>
       rw[hg]at h2;have hs:[s.ev []]=z.cells.toList:=by simpa using s1
       cases z<;>simp[Zwf]at h2<;>simp[Value.cells]at hs<;>simp[CV.ev,hs]
    cases h
   cases h
  cases h
 cases h
def Env.check(P:Program)(E:Env):Bool:=E.T.all (λp=>match mkTI P p.1 with|some i=>{ i with eqs:=i.eqs && p.2.eqs } == p.2|none=>ϣ) && E.fs.all (Zip P) && P.follows .mixedOrders
variable{E:Env}
def Env.ok(h:E.check P=ϒ)(hin:∀p∈E.inl,P.funcs[p.1]?=ϓ p.2):EnvOK P E:=by
 unfold Env.check at h;simp only[ϑ,Ϝ]at h;refine⟨λp hp=>?_,h.1.2,h.2,hin⟩;have:=h.1.1 p hp;split at this
 ·rename_i i hi;have hk:=Z1dp hi;simp only[beq_iff_eq]at this;rw[<- this];exact⟨hk.ok,λhe=>hk.cmp (by simp only[ϑ]at he;exact he.1)⟩
 cases this
def Ziy(E:Env)(fn:Func)(n:Nat)(args:List SV)(hp:List Ent):Tree:=Z1br E fn.ntmps fn.results.toList (fn.body.getD .skip) n args hp
variable{B:Base}{args:List SV}{hp:List Ent}{w:World}{t:Tree}
def Zo6{R:Ending->World->Prop}(hE:EnvOK P E){f:FuncId}{fn:Func}{n:Nat}(hf:P.funcs[f]?=ϓ fn)(ht:Ziy E fn n args hp=t)(hn:J.length=n)(hb:fn.body.isSome=ϒ)(hrel:Rel B J hp w)(hbh:hp.all (Ent.bd n)=ϒ)(hba:args.all (λs=>s.bd n && s.isVal)=ϒ)(h:t.goal ⟨P,B,R⟩ J []):Calls P f (args.map (SV.ev J)).toArray w R:=by
 subst hn ht;refine Z1h6 (C:=⟨P,B,R⟩) hE hf ?_ hrel hbh hba h;cases hb':fn.body with
 | none=>rw[hb']at hb;cases hb
 | some c=>rfl
def Rel.start(w:World)(J:List V):Rel ⟨[],w⟩ J [] w:=⟨Mod.refl _ _,O1,O1,Ϙ.nil⟩
def Zb{f:FuncId}{as as':Array Value}{R:Ending->World->Prop}(h:Calls P f as w R)(he:as=as'):Calls P f as' w R:=he▸h
mutual
def posX:X->List X
 | .and a b=>posX a++posX b
 | .not x=>negX x
 | x=>[x]
def negX:X->List X
 | .or a b=>negX a++negX b
 | .not x=>posX x
 | x=>[.not x]
end
def Z1dq(J:List V):∀x:X,(X.P J x->∀y∈posX x,X.P J y)/\(¬X.P J x->∀y∈negX x,X.P J y):=by
 intro x;induction x with
 | and a b iha ihb =>
  refine⟨λh y hy=>?_,λh y hy=>by simp only[negX,qy12]at hy;subst hy;exact h⟩;simp only[posX,qy13]at hy;rcases hy with hy|hy
  ·exact iha.1 h.1 y hy
  exact ihb.1 h.2 y hy
 | or a b iha ihb =>
  refine⟨λh y hy=>by simp only[posX,qy12]at hy;subst hy;exact h,λh y hy=>?_⟩;simp only[negX,qy13]at hy;simp only[X.P,not_or]at h;rcases hy with hy|hy
  ·exact iha.2 h.1 y hy
  exact ihb.2 h.2 y hy
 | not a ih =>
  exact⟨λh y hy=>ih.2 h y hy,λh y hy=>ih.1 (qy9.1 h) y hy⟩
 | _=>exact⟨λh y hy=>by simp only[posX,qy12]at hy;subst hy;exact h,λh y hy=>by simp only[negX,qy12]at hy;subst hy;exact h⟩
def Z3s(K:List X):X->Bool
 | .and a b=>Z3s K a && Z3s K b
 | .or a b=>K.contains (.or a b) || Z3s K a || Z3s K b
 | .not x=>K.contains (.not x)
 | .le (.I a) (.I b)=>decide (a<=b)
 | .eqI (.I a) (.I b)=>decide (a=b)
 | .lt (.I a) (.I b)=>decide (a<b)
 | .B b=>b
 | x=>K.contains x
variable{J:List V}
def Zbk{K:List X}(hK:∀x∈K,X.P J x):∀{c:X},Z3s K c=ϒ->X.P J c:=by
 intro c;induction c with
 | and a b iha ihb=>intro h;simp only[Z3s,ϑ]at h;exact⟨iha h.1,ihb h.2⟩
 | or a b iha ihb =>
  intro h;simp only[Z3s,Ϣ]at h;rcases h with(h|h)|h
  ·exact hK _ (by simpa using h)
  ·exact .inl (iha h)
  exact .inr (ihb h)
 | le a b =>
  intro h;unfold Z3s at h;split at h<;>(try cases ‹X.le _ _=_›)
  ·simpa[X.P,X.ev]using h
  exact hK _ (by simpa using h)
 | eqI a b =>
  intro h;unfold Z3s at h;split at h<;>(try cases ‹X.eqI _ _=_›)
  ·simpa[X.P,X.ev]using h
  exact hK _ (by simpa using h)
 | lt a b =>
  intro h;unfold Z3s at h;split at h<;>(try cases ‹X.lt _ _=_›)
  ·simpa[X.P,X.ev]using h
  exact hK _ (by simpa using h)
 | B b=>intro h;simpa[Z3s,X.P]using h
 | _=>intro h;exact hK _ (by simpa[Z3s]using h)
def Z4q(K:List X):X->Bool
 | .and a b=>Z4q K a || Z4q K b
 | .or a b=>Z4q K a && Z4q K b
 | .not x=>Z3s K x
 | .eqI (.I a) (.I b)=>!(decide (a=b))
 | .lt (.I a) (.I b)=>!(decide (a<b))
 | .B b=>!b
 | x=>K.contains (.not x)
def Zzf{K:List X}(hK:∀x∈K,X.P J x):∀{c:X},Z4q K c=ϒ->¬X.P J c:=by
 intro c;induction c with
 | and a b iha ihb =>
  intro h hp;simp only[Z4q,Ϣ]at h;rcases h with h|h
  ·exact iha h hp.1
  exact ihb h hp.2
 | or a b iha ihb =>
  intro h hp;simp only[Z4q,ϑ]at h;rcases hp with hp|hp
  ·exact iha h.1 hp
  exact ihb h.2 hp
 | not a ih=>intro h hp;exact hp (Zbk hK (by simpa only[Z4q]using h))
 | eqI a b =>
  intro h;unfold Z4q at h;split at h<;>(try cases ‹X.eqI _ _=_›)
  ·simpa[X.P,X.ev]using h
  exact hK (.not _) (by simpa using h)
 | lt a b =>
  intro h;unfold Z4q at h;split at h<;>(try cases ‹X.lt _ _=_›)
  ·simpa[X.P,X.ev]using h
  exact hK (.not _) (by simpa using h)
 | B b=>intro h;simpa[Z4q,X.P]using h
 | _=>intro h;exact hK (.not _) (by simpa[Z4q]using h)
def Z12h(n:Nat)(l K:List X):List X:=(l.filter λx=>x.bd n)++K
def tidy(keep:Bool):Nat->List X->Tree->Tree
 | n,K,.ite c t e =>
  if Z3s K c then tidy keep n K t else if((negX c).all (Z3s K) || Z4q K c)=ϒ then tidy keep n K e
  else .ite c (tidy keep n (Z12h n (posX c) K) t) (tidy keep n (Z12h n (negX c) K) e)
 | n,K,.need c t=>if Z3s K c then tidy keep n K t else .need c (tidy keep n (Z12h n (posX c) K) t)
 | n,K,.bindN t=>.bindN (tidy keep (n+1) K t)
 | n,K,.bindV t=>.bindV (tidy keep (n+1) K t)
 | n,K,.bindO t=>if keep=ϒ then .bindO (tidy keep (n+1) K t)else .bindV (tidy keep (n+1) K t)
 | n,K,.bindF v t=>if keep=ϒ then .bindF v (tidy keep (n+1) K t)else .bindV (tidy keep (n+1) K t)
 | n,K,.letV v t=>.letV v (tidy keep (n+1) K t)
 | n,K,.callP g f args hp res m t=>.callP g f args hp res m (tidy keep (n+m) K t)
 | n,K,.callM f args hp mods gone ms es res m t=>.callM f args hp mods gone ms es res m (tidy keep (n+m) K t)
 | n,K,.both t e=>.both (tidy keep n K t) (tidy keep n K e)
 | n,K,.callR f args hp hp' t=>.callR f args hp hp' (tidy keep n K t)
 | n,K,.openR v ks hp t=>.openR v ks hp (tidy keep (n+1) K t)
 | n,K,.pack hp t=>.pack hp (tidy keep (n+1) K t)
 | n,K,.loop inits t=>.loop inits (tidy keep (n+inits.length) K t)
 | n,K,.join m t e=>.join m (tidy keep n K t) (tidy keep (n+m) K e)
 | _,_,t=>t
def Z12i(J:List V):∀x:X,((∀y∈negX x,X.P J y)->¬X.P J x)/\((∀y∈posX x,X.P J y)->X.P J x):=by
 intro x;induction x with
 | or a b iha ihb =>
  refine⟨λh hp=>?_,λh=>h _ (by simp[posX])⟩;simp only[negX,qy13]at h;rcases hp with hp|hp
  ·exact iha.1 (λy hy=>h y (.inl hy)) hp
  exact ihb.1 (λy hy=>h y (.inr hy)) hp
 | and a b iha ihb =>
  refine⟨λh hp=>(h (.not (.and a b)) (qy12.2 rfl)) hp,λh=>?_⟩;simp only[posX,qy13]at h;exact⟨iha.2 λy hy=>h y (.inl hy),ihb.2 λy hy=>h y (.inr hy)⟩
 | not a ih =>
  refine⟨λh hp=>hp (ih.2 (by simpa only[negX]using h)),λh hp=>ih.1 (by simpa only[posX]using h) hp⟩
 | _=>exact⟨λh hp=>(h (.not _) (qy12.2 rfl)) hp,λh=>h _ (qy12.2 rfl)⟩
def Zu2{C:Cx}{keep:Bool}:∀(t:Tree) {n:Nat} {K:List X} {J:List V} {L:List LC},J.length=n->(∀x∈K,X.P J x/\x.bd n=ϒ)->(tidy keep n K t).goal C J L->t.goal C J L:=by
 have ext:∀{n m:Nat} {K:List X} {J vs:List V},J.length=n->n+vs.length=m->(∀x∈K,X.P J x/\x.bd n=ϒ)->(J++vs).length=m/\∀x∈K,X.P (J++vs) x/\x.bd m=ϒ:=by intro n m K J vs hn hm hK;refine⟨by simp[hn,hm],λx hx=>?_⟩;obtain⟨h1,h2⟩:=hK x hx;refine⟨?_,X.bd_mono O x h2⟩;rw[X.P_iff]at h1⊢;rw[<- X.ev_bd (by rw[<- hn];exact Z18.app J vs) x h2];exact h1
 have lrn:∀{n:Nat} {l K:List X} {J:List V},(∀x∈K,X.P J x/\x.bd n=ϒ)->(∀x∈l,X.P J x)->∀x∈Z12h n l K,X.P J x/\x.bd n=ϒ:=by
  intro n l K J hK hl x hx;simp only[Z12h,qy13,List.mem_filter]at hx;rcases hx with⟨h1,h2⟩|hx
  ·exact⟨hl x h1,h2⟩
  exact hK x hx
 intro t;induction t with
 | ite c t e iht ihe =>
  intro n K J L hn hK h;simp only[tidy]at h;split at h
  ·rename_i hi;have hc:=Zbk (λx hx=>(hK x hx).1) hi;exact⟨λ_=>iht hn hK h,λhno=>ϟ hc hno⟩
  split at h
  ·rename_i hi;have hc:¬X.P J c:=by
    rcases Bool.or_eq_true_iff.1 hi with hi|hi
    ·exact(Z12i J c).1 (λy hy=>Zbk (λx hx=>(hK x hx).1) (Ϝ.1 hi y hy))
    exact Zzf (λx hx=>(hK x hx).1) hi
   exact⟨λhyes=>ϟ hyes hc,λ_=>ihe hn hK h⟩
  exact⟨λhp=>iht hn (lrn hK ((Z1dq J c).1 hp)) (h.1 hp),λhp=>ihe hn (lrn hK ((Z1dq J c).2 hp)) (h.2 hp)⟩
 | need c t ih =>
  intro n K J L hn hK h;simp only[tidy]at h;split at h
  ·rename_i hi;exact⟨Zbk (λx hx=>(hK x hx).1) hi,ih hn hK h⟩
  exact⟨h.1,ih hn (lrn hK ((Z1dq J c).1 h.1)) h.2⟩
 | bindN t ih=>intro n K J L hn hK h;exact λb=>have e:=ext hn rfl hK;ih e.1 e.2 (h b)
 | bindV t ih=>intro n K J L hn hK h;exact λb=>have e:=ext hn rfl hK;ih e.1 e.2 (h b)
 | bindO t ih =>
  intro n K J L hn hK h;simp only[tidy]at h;split at h
  ·exact λb hb=>have e:=ext hn rfl hK;ih e.1 e.2 (h b hb)
  exact λb _=>have e:=ext hn rfl hK;ih e.1 e.2 (h b)
 | bindF v t ih =>
  intro n K J L hn hK h;simp only[tidy]at h;split at h
  ·exact λb hb=>have e:=ext hn rfl hK;ih e.1 e.2 (h b hb)
  exact λb _=>have e:=ext hn rfl hK;ih e.1 e.2 (h b)
 | letV x t ih=>intro n K J L hn hK h;exact have e:=ext hn rfl hK;ih e.1 e.2 h
 | both t e iht ihe=>intro n K J L hn hK h;exact⟨iht hn hK h.1,ihe hn hK h.2⟩
 | callP g f args hp res m t ih =>
  intro n K J L hn hK h;obtain⟨vs,hl,hc,h⟩:=h;have e:=ext hn (by rw[hl]) hK;exact⟨vs,hl,hc,ih e.1 e.2 h⟩
 | callM f args hp mods gone ms es res m t ih =>
  intro n K J L hn hK h w hr;refine(h w hr).mono ?_;rintro e w1 ⟨vs,hl,h1,h2,h3,h4,h5,h6⟩;have e:=ext hn (by rw[hl]) hK;exact⟨vs,hl,h1,h2,h3,h4,h5,ih e.1 e.2 h6⟩
 | callR f args hp hp' t ih=>intro n K J L hn hK h;exact⟨h.1,ih hn hK h.2⟩
 | openR v ks hp t ih =>
  intro n K J L hn hK h;obtain⟨rows,h1,h2⟩:=h;have e:=ext (vs:=[.r rows]) hn rfl hK;exact⟨rows,h1,ih e.1 e.2 h2⟩
 | pack hp t ih =>
  intro n K J L hn hK h;obtain⟨A,h1,h2,h3⟩:=h;have e:=ext (vs:=[.a A]) hn rfl hK;exact⟨A,h1,h2,ih e.1 e.2 h3⟩
 | loop inits t ih =>
  intro n K J L hn hK h;obtain⟨I,μ,h1,h2⟩:=h;refine⟨I,μ,h1,λvs hl hI=>?_⟩;have e:=ext hn (by rw[hl]) hK;exact ih e.1 e.2 (h2 vs hl hI)
 | join m t e iht ihe =>
  intro n K J L hn hK h;obtain⟨I,h1,h2⟩:=h;refine⟨I,iht hn hK h1,λvs hl hI=>?_⟩;have e:=ext hn (by rw[hl]) hK;exact ihe e.1 e.2 (h2 vs hl hI)
 | _=>intro n K J L hn hK h;exact h
def Z12j(E:Env)(fn:Func)(n:Nat)(args:List SV)(hp:List Ent):Tree:=tidy ϣ n [] (Ziy E fn n args hp)
def Z1dr(E:Env)(fn:Func)(n:Nat)(args:List SV)(hp:List Ent):Tree:=tidy ϒ n [] (Ziy E fn n args hp)
variable{P:Program}{E:Env}{B:Base}{args:List SV}{hp:List Ent}{w:World}{t:Tree}
def Z12k{R:Ending->World->Prop}(hE:EnvOK P E){f:FuncId}{fn:Func}{n:Nat}(hf:P.funcs[f]?=ϓ fn)(ht:Z12j E fn n args hp=t)(hn:J.length=n)(hb:fn.body.isSome=ϒ)(hrel:Rel B J hp w)(hbh:hp.all (Ent.bd n)=ϒ)(hba:args.all (λs=>s.bd n && s.isVal)=ϒ)(h:t.goal ⟨P,B,R⟩ J []):Calls P f (args.map (SV.ev J)).toArray w R :=
 Zo6 hE hf rfl hn hb hrel hbh hba (Zu2 (K:=[]) _ hn (λx hx=>ϟ hx Ϟ) (by rw[<- ht]at h;exact h))
def Z1h8{R:Ending->World->Prop}(hE:EnvOK P E){f:FuncId}{fn:Func}{n:Nat}(hf:P.funcs[f]?=ϓ fn)(ht:Z1dr E fn n args hp=t)(hn:J.length=n)(hb:fn.body.isSome=ϒ)(hrel:Rel B J hp w)(hbh:hp.all (Ent.bd n)=ϒ)(hba:args.all (λs=>s.bd n && s.isVal)=ϒ)(h:t.goal ⟨P,B,R⟩ J []):Calls P f (args.map (SV.ev J)).toArray w R :=
 Zo6 hE hf rfl hn hb hrel hbh hba (Zu2 (K:=[]) _ hn (λx hx=>ϟ hx Ϟ) (by rw[<- ht]at h;exact h))
def Z1gs{R:Ending->World->Prop}(hE:EnvOK P E){f:FuncId}{fn:Func}{n:Nat}(hf:P.funcs[f]?=ϓ fn)(ht:Z12j E fn n args []=t)(hn:J.length=n)(hb:fn.body.isSome=ϒ)(hba:args.all (λs=>s.bd n && s.isVal)=ϒ)(h:t.goal ⟨P,⟨[],w⟩,R⟩ J []):Calls P f (args.map (SV.ev J)).toArray w R :=
 Z12k hE hf ht hn hb (Rel.start w J) rfl hba h
def Rel.start2(h:∀e∈hp,e.holds J w/\e.wr=ϣ):Rel ⟨[],w⟩ J hp w :=
 ⟨Mod.refl _ _,λe he=>(h e he).1,λe he hw=>(by rw[(h e he).2]at hw;cases hw),Ϙ.imp_of_mem (λ{a b} ha hb _ hw=>(by rcases hw with hw|hw;rw[(h a ha).2]at hw;cases hw;rw[(h b hb).2]at hw;cases hw)) (List.pairwise_of_forall (λ_ _=>trivial))⟩
def reads.sc1{v:Value}{ks:List Kd}{rows:List (List Value)}(h:reads w v ks rows):sc1 v=v:=by obtain⟨_,a,cap,rfl,_⟩:=h;rfl
variable{e:Ent}
def Rel.at_(h:Rel B J hp w)(i:Nat)(he:hp[i]?=ϓ e):e.holds J w:=h.holds e (qy6 he)
def Asrt.tt:Asrt:=⟨λ_=>True,λ_=>False,λ_ _ _ _=>trivial,λ_ _ _ h=>h.elim⟩
def Zo7{v:Nat}{es:List Ent}(hv:J.getD v (.i 0)=.a Asrt.tt)(h:Zt J es):Zt J (.st v::es) :=
 ϔ.2 ⟨λe _ _ k hk _=>by simp only[Ent.fp,hv]at hk;exact hk,h⟩
def Z2:Zt J [e]:=List.pairwise_singleton _ _
def Z8:Zt J []:=Ϙ.nil
structure SEnt where
 holds:World->Prop
 fp:Nat->Prop
 wr:Bool
def Ent.sem(J:List V)(e:Ent):SEnt:=⟨e.holds J,λk=>e.fp J k,e.wr⟩
def Rel.conv{J':List V}{hp':List Ent}(h:Rel B J hp w)(e:hp.map (Ent.sem J)=hp'.map (Ent.sem J')):Rel B J' hp' w:=by
 have hm:∀x∈hp',∃y∈hp,Ent.sem J y=Ent.sem J' x:=λx hx=>by
  have:Ent.sem J' x∈hp.map (Ent.sem J):=by rw[e];exact List.mem_map_of_mem hx
  obtain⟨y,hy,he⟩:=List.mem_map.1 this;exact⟨y,hy,he⟩
 exact⟨h.mod,λx hx=>(by obtain⟨y,hy,he⟩:=hm x hx;have:=h.holds y hy;have e1:y.holds J w=x.holds J' w:=congrFun (congrArg SEnt.holds he) w;rw[<- e1];exact this),λx hx hw k hk=>(by obtain⟨y,hy,he⟩:=hm x hx;have e1:y.fp J k=x.fp J' k:=congrFun (congrArg SEnt.fp he) k;have e2:y.wr=x.wr:=congrArg SEnt.wr he;exact h.own y hy (by rw[e2];exact hw) k (by rw[e1];exact hk)),by have h1:(hp.map (Ent.sem J)).Pairwise λe e'=>(e.wr=ϒ\/e'.wr=ϒ)->∀k,e.fp k->e'.fp k->False:=Ϛ.2 h.sep;rw[e]at h1;exact Ϛ.1 h1⟩
variable{k:Nat}
def Zt.disj(h:Zt J hp){i j:Nat}{a b:Ent}(hi:hp[i]?=ϓ a)(hj:hp[j]?=ϓ b)(hij:i≠j)(hw:a.wr=ϒ\/b.wr=ϒ)(h1:a.fp J k)(h2:b.fp J k):False:=by
 unfold Zt at h;rw[List.pairwise_iff_getElem]at h;obtain⟨li,ei⟩:=ϕ.1 hi;obtain⟨lj,ej⟩:=ϕ.1 hj;rcases Nat.lt_or_ge i j with hlt|hge
 ·have:=h i j li lj hlt;rw[ei,ej]at this;exact this hw k h1 h2
 have:=h j i lj li O;rw[ei,ej]at this;exact this hw.symm k h2 h1
def Zu3{α:Type}{l:List α}{R:α->α->Prop}(h:∀(i j:Nat) (a b:α),l[i]?=ϓ a->l[j]?=ϓ b->i≠j->R a b):∀{is:List Nat},is.Nodup->(is.filterMap λi=>l[i]?).Pairwise R
 | [],_=>.nil
 | i::is,hn=>by
  obtain⟨h1,h2⟩:=List.nodup_cons.1 hn;rw[List.filterMap_cons];cases hi:l[i]? with
  | none=>exact Zu3 h h2
  | some a =>
   refine ϔ.2 ⟨λb hb=>?_,Zu3 h h2⟩;obtain⟨j,hj,hb⟩:=ϙ.1 hb;exact h i j a b hi hb (λe=>h1 (e▸hj))
def Rel.pick(h:Rel B J hp w)(is:List Nat)(hn:is.Nodup):Rel B J (is.filterMap λi=>hp[i]?) w:=by
 have hm:∀e∈is.filterMap (λi=>hp[i]?),e∈hp:=λe he=>by obtain⟨i,-,hi⟩:=ϙ.1 he;exact qy6 hi
 exact⟨h.mod,λe he=>h.holds e (hm e he),λe he=>h.own e (hm e he),Zu3 (λi j a b hi hj hij hw k=>h.sep.disj hi hj hij hw) hn⟩
def Ent.fpl(J:List V):Ent->List Nat
 | .cells v _ _=>[(J.getD v (.i 0)).toN]
 | .row v _ _ _=>(J.getD v (.i 0)).toV.ownBlock.toList
 | _=>[]
def Zh(J:List V)(hp:List Ent):List Nat:=hp.flatMap (Ent.fpl J)
def Ent.fpl_ok(hw:e.wr=ϒ):e.fp J k↔k∈e.fpl J:=by
 cases e with
 | cells v ty cs=>simp[Ent.fp,Ent.fpl]
 | row v ty ks r=>simp[Ent.fp,Ent.fpl,Z1]
 | rd v ks r=>cases hw
 | st v=>cases hw
def Z12l(he:e∈hp)(hw:e.wr=ϒ)(hk:e.fp J k):k∈Zh J hp:=List.mem_flatMap.2 ⟨e,he,(Ent.fpl_ok hw).1 hk⟩
def Rel.base(h:Rel B J hp w):Rel ⟨Zh J hp,w⟩ J hp w :=
 ⟨Mod.refl _ _,h.holds,λe he hw k hk=>.inr (Z12l he hw hk),h.sep⟩
def Rel.fresh{w':World}(hr:Rel ⟨[],w⟩ J hp w')(i:Nat){v ty:Nat}{ks:List Kd}{r:X}(h:hp[i]?=ϓ (.row v ty ks r)):∀k,Z1 (J.getD v (.i 0)).toV k->w.heap.size<=k:=λk hk=>by
 rcases hr.own _ (qy6 h) rfl k hk with h|h
 ·exact h
 simp at h
def Rel.hd(h:Rel B J (e::hp) w):e.holds J w:=h.holds e (qy8 ..)
def Rel.tl(h:Rel B J (e::hp) w):Rel B J hp w :=
 ⟨h.mod,λx hx=>h.holds x (qy10 _ hx),λx hx=>h.own x (qy10 _ hx),(ϔ.1 h.sep).2⟩
end Go.Sx
namespace Go.Sx
section
universe u v
variable {α:Type u} {β:Type v} {a:α} {l m:List α} {d:α} {n:Nat} {f:α->β}
def QA(n:Int):(V.i n).toI=n:=rfl
def QB(n:Bool):(V.b n).toB=n:=rfl
def QC(n:By):(V.s n).toS=n:=rfl
def QD(n:List (List Value)):(V.r n).toR=n:=rfl
def QE(n:Value):(V.v n).toV=n:=rfl
def QF(n:Nat):(V.n n).toN=n:=rfl
def QG(n:List Value):(V.l n).toL=n:=rfl
def QH:(a::l)[0]?=ϓ a:=rfl
def QI:(a::l)[n+1]?=l[n]?:=rfl
def QJ:(a::l).length=l.length+1:=rfl
def QK:([]:List α).length=0:=rfl
def QL:(a::l)++m=a::(l++m):=rfl
def QM:[]++l=l:=rfl
end
def qE{hp:List Ent}{J:List V}{j:Nat}{e:Ent}(i:Nat)(h:hp[i]?=ϓ e)(hw:e.wr=ϣ)(hf:e.fp J j):∃e∈hp,e.wr=ϣ/\e.fp J j:=⟨e,qy6 h,hw,hf⟩
def qz:(∀(α:Type) (a d:α) (l:List α),(a::l).getD 0 d=a)/\(∀(α:Type) (a d:α) (l:List α) (n:Nat),(a::l).getD (n+1) d=l.getD n d)/\(∀(α:Type) (β:Type) (a:α) (l:List α) (f:α->β),Ϥ f (a::l)=f a::Ϥ f l)/\(∀(α:Type) (β:Type) (f:α->β),Ϥ f []=[])/\(∀(n:Nat),0+n=n):=⟨λ_ _ _ _=>rfl,λ_ _ _ _ _=>rfl,λ_ _ _ _ _=>rfl,λ_ _ _=>rfl,Nat.zero_add⟩
end Go.Sx
namespace Go.Sx
def QQ:=ϐ @CV.ev.eq_1 (ϐ @CV.ev.eq_2 (ϐ @CV.ev.eq_3 (ϐ @SV.ev.eq_1 (ϐ @SV.ev.eq_2 (ϐ @SV.ev.eq_3 (ϐ @SV.ev.eq_4 (ϐ @Sc.ev.eq_1 (ϐ @Sc.ev.eq_2 (ϐ @Sc.ev.eq_3 (ϐ @Sc.ev.eq_4 (ϐ @Sc.ev.eq_5 (ϐ @Sc.ev.eq_6 (ϐ @Sc.ev.eq_7 (ϐ @Sc.ev.eq_8 (ϐ @Sc.ev.eq_9 (ϐ @Tree.goal.eq_1 (ϐ @Tree.goal.eq_2 (ϐ @Tree.goal.eq_3 (ϐ @Tree.goal.eq_4 (ϐ @Tree.goal.eq_5 (ϐ @Tree.goal.eq_6 (ϐ @Tree.goal.eq_7 (ϐ @Tree.goal.eq_8 (ϐ @Tree.goal.eq_9 (ϐ @Tree.goal.eq_10 (ϐ @Tree.goal.eq_11 (ϐ @Tree.goal.eq_12 (ϐ @Tree.goal.eq_13 (ϐ @Tree.goal.eq_14 (ϐ @Tree.goal.eq_15 (ϐ @Tree.goal.eq_16 (ϐ @Tree.goal.eq_17 (ϐ @Tree.goal.eq_18 (ϐ @Tree.goal.eq_19 (ϐ @Tree.goal.eq_20 (ϐ @X.P.eq_1 (ϐ @X.P.eq_2 (ϐ @X.P.eq_3 (ϐ @X.P.eq_4 (ϐ @X.P.eq_5 (ϐ @X.P.eq_6 (ϐ @X.P.eq_7 (ϐ @X.P.eq_8 (ϐ @X.P.eq_9 (ϐ @X.P.eq_10 (ϐ @X.ev.eq_1 (ϐ @X.ev.eq_2 (ϐ @X.ev.eq_3 (ϐ @X.ev.eq_4 (ϐ @X.ev.eq_5 (ϐ @X.ev.eq_6 (ϐ @X.ev.eq_7 (ϐ @X.ev.eq_8 (ϐ @X.ev.eq_9 (ϐ @X.ev.eq_10 (ϐ @X.ev.eq_11 (ϐ @X.ev.eq_12 (ϐ @X.ev.eq_13 (ϐ @X.ev.eq_14 (ϐ @X.ev.eq_15 (ϐ @X.ev.eq_16 (ϐ @X.ev.eq_17 (ϐ @X.ev.eq_18 (ϐ @X.ev.eq_19 (ϐ @X.ev.eq_20 (ϐ @X.ev.eq_21 (ϐ @X.ev.eq_22 (ϐ @X.ev.eq_23 (ϐ @X.ev.eq_24 (ϐ @X.ev.eq_25 (ϐ @X.ev.eq_26 (ϐ @X.ev.eq_27 (ϐ @X.ev.eq_28 (ϐ @X.ev.eq_29 (ϐ @X.ev.eq_30 (ϐ @X.ev.eq_31 (ϐ @X.ev.eq_32 (ϐ @X.ev.eq_33 (ϐ @X.ev.eq_34 (ϐ @X.ev.eq_35 (ϐ @X.ev.eq_36 (ϐ @X.ev.eq_37 (ϐ @X.ev.eq_38 (ϐ @X.ev.eq_39 (ϐ @X.ev.eq_40 (ϐ @X.ev.eq_41 (ϐ @X.ev.eq_42 (ϐ @X.ev.eq_43 (ϐ @X.ev.eq_44 (ϐ @X.ev.eq_45 (ϐ @X.ev.eq_46 (ϐ @X.ev.eq_47 (ϐ @X.ev.eq_48 (ϐ @X.ev.eq_49 (ϐ @X.ev.eq_50 (ϐ @X.ev.eq_51 (ϐ @X.ev.eq_52 (ϐ @X.ev.eq_53 (ϐ @X.ev.eq_54 (ϐ @X.ev.eq_55 (ϐ @qz.1 (ϐ @qz.2.1 (ϐ @qz.2.2.1 (ϐ @qz.2.2.2.1 (ϐ @qz.2.2.2.2 (ϐ QA (ϐ QB (ϐ QC (ϐ QD (ϐ QE (ϐ QF (ϐ QG (ϐ @QH.{0} (ϐ @QI.{0} (ϐ @QJ.{0} (ϐ @QK.{0} (ϐ @QL.{0} @QM.{0})))))))))))))))))))))))))))))))))))))))))))))))))))))))))))))))))))))))))))))))))))))))))))))))))))))))))))))))))))))
def QR:=ϐ QQ (ϐ @qy3.{0,0} qy4)
