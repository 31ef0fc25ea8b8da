/- By an AI agent. -/
import Derived.Test.YtimapehenhbloaaGreatDoorH02
set_option linter.all false
set_option maxHeartbeats 20000000
set_option maxRecDepth 100000
open Bool renaming true→ϐ,false→ϒ,and_eq_true→ϗ
open Option renaming some→ϑ,none→ϓ,bind_eq_some_iff→ϔ,bind_eq_bind→ϖ,map_eq_some_iff→Ϟ,some→Ϡ,ite_none_right_eq_some→Ϣ,getD_some→ϧ,getD_none→ϱ,map_some→ϳ
open List renaming all_eq_true→ϕ,prefix_rfl→ϙ,mem_map→Ϛ,prefix_append→Ϝ,mem_filter→ϣ,pairwise_cons→Ϥ,mem_or_eq_of_mem_set→ϥ,mem_cons→Ϧ,getElem?_toArray→ϩ,pairwise_append→Ϫ,map_congr_left→ϫ,append_of_mem→Ϭ,getElem?_set→Ϯ,getElem?_map→ϯ,pairwise_map→ϰ,replicate→Ϸ,Pairwise→ϸ
open Array renaming getD_eq_getD_getElem?→Ϙ,ext'→ϭ
open Nat renaming le_trans→Ϩ,le_refl→ϲ
namespace Go.Sx
open Go
structure St where
 n:Nat
 d:Nat
 fr:List SV
 hp:List Ent
 deriving DecidableEq,Repr,Inhabited
inductive Tree
 | ret (v:SV) (hp:List Ent)
 | ite (c:X) (t e:Tree)
 | need (c:X) (t:Tree)
 | bindN (t:Tree)
 | bindV (t:Tree)
 | bindO (t:Tree)
 | bindF (v:Nat) (t:Tree)
 | letV (v:X) (t:Tree)
 | callP (g:X) (f:Nat) (args:List SV) (hp:List Ent) (res:SV) (m:Nat) (t:Tree)
 | callM (f:Nat) (args:List SV) (hp:List Ent) (mods gone:List Nat) (ms es:List Ent) (res:SV) (m:Nat) (t:Tree)
 | callR (f:Nat) (args:List SV) (hp hp':List Ent) (t:Tree)
 | both (t e:Tree)
 | openR (v:Nat) (ks:List Kd) (hp:List Ent) (t:Tree)
 | pack (hp:List Ent) (t:Tree)
 | loop (inits:List X) (t:Tree)
 | back (d:Nat) (xs:List X)
 | join (m:Nat) (t e:Tree)
 | jump (d:Nat) (xs:List X)
 | leaf (st:St)
 | stuck (why:String)
 deriving Repr,Inhabited
structure LC where
 I:List V->Prop
 μ:List V->Nat
 vs:List V
structure Cx where
 P:Program
 B:Base
 R:Ending->World->Prop
def SV.isVal:SV->Bool | .cv _ | .tup _ | .fn ..=>ϐ|_=>ϒ
def Zq(J:List V)(gone:List Nat):List Nat:=gone.flatMap λv=>(J.getD v (.i 0)).toV.ownBlock.toList
def Zn(J:List V)(mods gone:List Nat):List Nat:=(mods.map λv=>(J.getD v (.i 0)).toN)++Zq J gone
def Tree.goal(C:Cx):Tree->List V->List LC->Prop
  | .ret v hp,J,_=>∀w,Rel C.B J hp w->C.R (.returned (v.ev J)) w
  | .ite c t e,J,L=>(c.P J->t.goal C J L)/\(¬c.P J->e.goal C J L)
  | .need c t,J,L=>c.P J/\t.goal C J L
  | .both t e,J,L=>t.goal C J L/\e.goal C J L
  | .bindN t,J,L=>∀b:Nat,t.goal C (J++[.n b]) L
  | .bindV t,J,L=>∀v:Value,t.goal C (J++[.v v]) L
  | .bindO t,J,L=>∀v:Value,(∀k,Z1 v k->C.B.w0.heap.size<=k\/k∈C.B.fp)->t.goal C (J++[.v v]) L
  | .bindF u t,J,L=>∀v:Value,(∀k,Z1 v k->Z1 (J.getD u (.i 0)).toV k)->t.goal C (J++[.v v]) L
  | .letV x t,J,L=>t.goal C (J++[x.ev J]) L
  | .callP g f args hp res m t,J,L=>∃vs:List V,vs.length=m /\
      (g.P J->∀w,Rel C.B J hp w->Calls C.P f (args.map (SV.ev J)).toArray w λe w1=>e=.returned (res.ev (J++vs))/\Mod [] w w1)/\t.goal C (J++vs) L
  | .callM f args hp mods gone ms es res m t,J,L=>∀w,Rel C.B J hp w->Calls C.P f (args.map (SV.ev J)).toArray w λe w1 =>
      ∃vs:List V,vs.length=m/\e=.returned (res.ev (J++vs))/\Mod (Zn J mods gone) w w1/\(∀x∈ms,x.holds (J++vs) w1) /\
        (∀x∈es,x.holds (J++vs) w1/\∀k,x.fp (J++vs) k->w.heap.size<=k\/(x.wr=ϒ/\∃y∈hp,y.wr=ϒ/\y.fp J k)\/k∈Zq J gone)/\Zt (J++vs) es/\t.goal C (J++vs) L
  | .callR f args hp hp' t,J,L=>(∀w,Rel C.B J hp w->Calls C.P f (args.map (SV.ev J)).toArray w λe w1=>e=.returned (.tuple #[])/\Rel C.B J hp' w1)/\t.goal C J L
  | .openR v ks hp t,J,L=>∃rows:List (List Value),(∀w,Rel C.B J hp w->reads w (J.getD v (.i 0)).toV ks rows /\
      (rows.flatten≠[]->∀k,Z1 (J.getD v (.i 0)).toV k->∀e∈hp,e.wr=ϐ->¬e.fp J k))/\t.goal C (J++[.r rows]) L
  | .pack hp t,J,L=>∃A:Asrt,(∀w,Rel C.B J hp w->A.holds w)/\(∀k,A.fp k->∃e∈hp,e.wr=ϒ/\e.fp J k)/\t.goal C (J++[.a A]) L
  | .loop inits t,J,L=>∃(I:List V->Prop) (μ:List V->Nat),I (inits.map (X.ev J))/\∀vs,vs.length=inits.length->I vs->t.goal C (J++vs) (L++[⟨I,μ,vs⟩])
  | .back d xs,J,L=>match L[d]? with
    | some c=>c.I (xs.map (X.ev J))/\c.μ (xs.map (X.ev J))<c.μ c.vs
    | none=>False
  | .join m t e,J,L=>∃I:List V->Prop,t.goal C J (L++[⟨I,λ_=>0,[]⟩])/\∀vs,vs.length=m->I vs->e.goal C (J++vs) L
  | .jump d xs,J,L=>match L[d]? with
    | some c=>c.I (xs.map (X.ev J))
    | none=>False
  | .leaf _,_,_=>False
  | .stuck _,_,_=>False
instance:Inhabited LC:=⟨⟨λ_=>True,λ_=>0,[]⟩⟩
def Sc.ofV:Value->Option Sc
 | .int k n=>ϑ (.int k (.I n))
 | .bool b=>ϑ (.bool (.B b))
 | .string s=>ϑ (.str (.S s.data.toList))
 | .pointer ϓ=>ϑ .nilp
 | .slice ϓ 0 0=>ϑ .nils
 | .map ϓ=>ϑ .nilm
 | _=>ϓ
variable{v:Value}
def Sc.ofV_ok{J:List V}{s:Sc}(h:Sc.ofV v=ϑ s):s.ev J=v:=by unfold Sc.ofV at h;split at h<;>simp only[Ϡ.injEq,reduceCtorEq]at h<;>subst h<;>simp[Sc.ev,X.ev]
def St.slot(st:St)(t:Nat):SV:=st.fr.getD t .dead
def St.rd(st:St)(G:X):Operand->Option CV
 | .tmp t=>match st.slot t with
  | .cv c=>ϑ c
  | .gd g c=>if G.bears g then ϑ c else ϓ
  | _=>ϓ
 | .const v=>(Sc.ofV v).map λs=>(ϒ,[s])
 | _=>ϓ
def St.rdA(st:St)(G:X)(x:Operand):Option SV :=
 match st.rd G x with
 | some c=>ϑ (.cv c)
 | none=>match x with
  | .tmp t=>match st.slot t with | .fn f a b=>ϑ (.fn f a b)|_=>ϓ
  | .func f=>ϑ (.fn f [] [])
  | _=>ϓ
def St.put(st:St)(d:Option Tmp)(s:SV):St :=
 match d with
 | some d=>{ st with fr:=st.fr.set d (if s.bd st.n then s else .dead) }
 | none=>st
def impl(G n:X):X:=if G=.B ϐ then n else .or (Zh6 G) n
def Zc5(G:X):List X->Tree->Tree
 | [],t=>t
 | n::l,t=>.need (impl G n) (Zc5 G l t)
variable(ops:List Oper)
def Z94(o:Oper)(st:St):Option X :=
 match o.guard with
 | none=>ϑ (.B ϐ)
 | some (j,want)=>do
  let oj <- ops[j]?
  let d <- oj.dst
  match st.slot d with
  | .cv (ϒ,[.bool x])=>ϑ (if want then x else Zh6 x)
  | .gd g (ϒ,[.bool x])=>ϑ (Zik g (if want then x else Zh6 x))
  | .tup []=>ϑ (.B ϒ)
  | _=>ϓ
structure Env where
 T:Tab
 tups:List (Nat×List Nat)
 fs:List Nat
 own:List Nat
 take:List Nat
 lose:List Nat
 inl:List (Nat×Func)
 joins:List (Nat×Nat×Nat):=[]
 deep:List Nat:=[]
 ro:List Nat:=[]
def Env.ownF(E:Env)(f:Nat):Nat->Bool:=λe=>(E.own.contains f || E.joins.any λj=>j.1 == 20 && j.2.1 == f) && !(E.deep.contains f && E.ro.contains e)
def Zyw(T:Tab):Nat->Nat->List (Option Nat)
 | 0,_=>[]
 | f+1,t=>match T.get t with
  | some i=>match i.tag with
   | .slice e=>[ϑ e]
   | .strct fl=>fl.flatMap λp=>let l:=Zyw T f p.2.1;if l.length=p.2.2.1 then l else Ϸ p.2.2.1 ϓ
   | _=>Ϸ i.ks.length ϓ
  | none=>[]
def Zch:List Ent->Nat->Option (Nat×List Kd×X)
 | [],_=>ϓ
 | .row u e ks r::l,v=>if u=v then ϑ (e,ks,r)else Zch l v
 | _::l,v=>Zch l v
def Z95(T:Tab)(own:Nat->Bool):Nat->List (Option Nat)->List Sc->List Sc×Nat×List Ent
 | n,_,[]=>([],n,[])
 | n,tys,s::ss =>
  let ty:=match tys with|t::_=>t | []=>ϓ
  let (c,n1,e):=match s with
   | .int k _=>(Sc.int k (.var n),n+1,[])
   | .bool _=>(.bool (.var n),n+1,[])
   | .str _=>(.str (.var n),n+1,[])
   | _=>match ty with
    | some e=>match T.get e with
     | some ei=>(.val (.var n),n+2,[if own e=ϐ then Ent.row n e ei.ks (.var (n+1))else Ent.rd n ei.ks (.var (n+1))])
     | none=>(.val (.var n),n+1,[])
    | none=>(.val (.var n),n+1,[])
  let (cs,n2,es):=Z95 T own n1 tys.tail ss
  (c::cs,n2,e++es)
def Zvr(T:Tab)(own:Nat->Bool)(t n:Nat):Option (CV×Nat×List Ent) :=
 match T.get t with
 | none=>ϑ ((ϒ,[.val (.var n)]),n+1,[])
 | some i=>match i.tag with
 | .slice e=>match own e,T.get e with
  | true,ϑ ei=>ϑ ((ϒ,[.val (.var n)]),n+2,[.row n e ei.ks (.var (n+1))])
  | true,ϓ=>ϓ
  | false,ϑ ei=>ϑ ((ϒ,[.val (.var n)]),n+2,[.rd n ei.ks (.var (n+1))])
  | false,ϓ=>ϑ ((ϒ,[.val (.var n)]),n+1,[])
 | .tuple _=>ϓ
 | _=>let r:=Z95 T own n (Zyw T 6 t) i.zs;ϑ ((i.agg,r.1),r.2.1,r.2.2)
def Zin(T:Tab)(own:Nat->Bool):List Nat->Nat->Option (List CV×Nat×List Ent)
 | [],n=>ϑ ([],n,[])
 | t::ts,n=>do
  let (c,n1,e1) <- Zvr T own t n
  let (cs,n2,e2) <- Zin T own ts n1
  ϑ (c::cs,n2,e1++e2)
def Zvs(c:CV):Bool:=c.2.any fun | .val _=>ϐ|_=>ϒ
def Zqm(T:Tab)(tups:List (Nat×List Nat))(own:Nat->Bool)(t n:Nat):Option (SV×Nat×List Ent) :=
 match tups.find? λp=>p.1 == t with
 | some (_,l)=>do
  let (cs,n1,es) <- Zin T own l n
  if cs.any Zvs && es.isEmpty then ϑ (.tup cs,n1+1,es++[.st n1])else ϑ (.tup cs,n1,es)
 | none=>do
  let (c,n1,es) <- Zvr T own t n
  if Zvs c && es.isEmpty then ϑ (.cv c,n1+1,es++[.st n1])else ϑ (.cv c,n1,es)
def Z11c(cs:List Sc):List Nat:=cs.filterMap fun | .ptr v _=>ϑ v|_=>ϓ
def SV.ptrs:SV->List Nat
 | .cv c=>Z11c c.2
 | .fn _ a b=>Z11c a++Z11c b
 | _=>[]
def Z8d(T:Tab)(R:List Nat)(n:Nat):List Nat->List Ent->Option (Nat×List Ent×List Ent)
 | [],_=>ϑ (n,[],[])
 | v::vs,hp=>do
  let (ty,cs) <- Zz hp v
  let r:=Z95 T (λe=>!(R.contains e || R.contains (1000000+ty*1000+e))) n (Zyw T 6 ty) cs
  let (n',es,news) <- Z8d T R r.2.1 vs hp
  ϑ (n',.cells v ty r.1::es,r.2.2++news)
variable(hp:List Ent)
def Z1bj(cs:List Sc):List Nat:=cs.filterMap fun | .val (.var u)=>(match Zch hp u with|some _=>ϑ u|none=>ϓ)|_=>ϓ
def Z11d(v:Nat):List Nat:=match Zz hp v with|some p=>Z1bj hp p.2|none=>[]
def SV.cells:SV->List Sc
 | .cv c=>c.2
 | _=>[]
def Z1bk(gone:List Nat):Ent->Bool | .row u _ _ _=>gone.contains u|_=>ϒ
def Zbg(gone:List Nat):List Ent:=hp.filter λe=>!(Z1bk gone e)
def Zbh(v ty:Nat)(cs:List Sc):List Ent :=
 hp.map fun | .cells u ty' cs'=>if u=v then .cells v ty cs else .cells u ty' cs' | e=>e
def Zgn(ms:List Ent):Ent->Ent
 | .cells u ty cs=>(match Zz ms u with|some (ty',cs')=>.cells u ty' cs' | none=>.cells u ty cs)
 | e=>e
def setAll(ms:List Ent):List Ent:=hp.map (Zgn ms)
def Ztk(l:List Nat):List Nat:=l.foldl (λacc x=>if acc.contains x then acc else acc++[x]) []
def Zio(st:St)(G:X):List Operand->Option (List SV)
 | []=>ϑ []
 | x::xs=>do let s <- st.rdA G x;let r <- Zio st G xs;ϑ (s::r)
def Z17j:Sc->Bool | .val _ | .ptr .. | .eptr ..=>ϐ|_=>ϒ
def SV.mem:SV->Bool
 | .cv c=>c.2.any Z17j
 | .tup l=>l.any λc=>c.2.any Z17j
 | .fn _ a b=>a.any Z17j || b.any Z17j
 | _=>ϒ
def forMem(b:Bool)(hp:List Ent):List Ent:=if b=ϐ then hp else[]
def Z11e(E:Env)(f:Nat)(hp:List Ent)(mods:List Nat)(args:List SV):List Nat:=Ztk (mods.flatMap (Z11d hp)++(if E.take.contains f then args.flatMap (λs=>Z1bj hp s.cells)else[]))
def Z1d1:Ent->Bool
 | .row _ _ ks _ | .rd _ ks _=>ks.any (· == .oth)
 | _=>ϒ
def Zvt(b:Bool)(n:Nat)(es:List Ent):Nat×List Ent:=if b=ϐ then(n+1,es++[.st n])else(n,es)
def Z11f:List Sc->List Nat
 | []=>[]
 | .val (.var u)::l=>u::Z11f l
 | _::l=>Z11f l
def Znx:X->List Nat
 | .consV (.var u) b=>u::Znx b
 | .consV _ b=>Znx b
 | .consI _ _ b=>Znx b
 | .consB _ b=>Znx b
 | .consS _ b=>Znx b
 | .snocR a b=>Znx a++Znx b
 | _=>[]
def Z11g(args:List SV):List Nat :=
 let vs:=args.flatMap λa=>Z11f a.cells
 vs++hp.flatMap λe=>match e with | .row v _ _ r=>if vs.contains v=ϐ then Znx r else[] | _=>[]
def stOf(u:Nat):Nat:=hp.foldl (λm e=>match e with | .st f=>if u<f/\(m=0\/f<m)then f else m|_=>m) 0
def Z11h(args:List SV):List Ent :=
 let vs:=Z11g hp args
 let ss:=(args.flatMap λa=>Z11f a.cells).map (stOf hp)
 hp.filter λe=>match e with | .rd u _ _=>!(vs.contains u) | .row u _ _ _=>!(vs.contains u) | .st f=>!(ss.contains f)|_=>ϐ
def Z1bl(E:Env)(f:Nat)(G:X):Bool:=G == .B ϐ && E.joins.any λj=>j.1 == 18 && j.2.1 == f
def Z1d2(E:Env)(f:Nat)(es:List Ent):Bool:=(E.deep.contains f && es.any Z1d1) || E.joins.any λj=>j.1 == 19 && j.2.1 == f
def Z11i(b:Bool)(n:Nat)(es:List Ent):n<=(Zvt b n es).1:=by unfold Zvt;split<;>simp
def Z11j(E:Env)(o:Oper)(G:X)(st:St)(k:St->Tree)(f:Nat)(args:List SV):Tree :=
 if !(E.fs.contains f)then .stuck "call no such function" else
 if Z1bl E f G=ϐ then .callR f args st.hp (Z11h st.hp args) (k (St.put { st with hp:=Z11h st.hp args } o.dst (.tup [])))else
 match Zqm E.T E.tups (E.ownF f) o.type st.n with
 | none=>.stuck "call the results type"
 | some (res,n1,es) =>
  let mods:=Ztk (args.flatMap SV.ptrs)
  let gone:=Z11e E f st.hp mods args
  if es.isEmpty && mods.isEmpty && gone.isEmpty then
   let st':={ st with n:=n1 }
   .callP G f args (forMem (args.any SV.mem) st.hp) res (n1 - st.n) (k (st'.put o.dst (match res with | .cv c=>if G=.B ϐ then .cv c else .gd G c|r=>if G=.B ϐ then r else .dead)))
  else if G=.B ϐ then
   match Z8d (if E.lose.contains f then[]else E.T) E.ro n1 mods st.hp with
   | none=>.stuck "call a pointer to no cells"
   | some (n2',ms,news') =>
    let q:=Zvt (Z1d2 E f (es++news')) n2' news'
    let st':={ st with n:=q.1,hp:=(es++q.2)++setAll (Zbg st.hp gone) ms }
    if st'.hp.all (Ent.bd q.1) && gone.all (λu=>(Zch st.hp u).isSome)then .callM f args st.hp mods gone ms (es++q.2) res (q.1 - st.n) (k (st'.put o.dst res))else .stuck "call bounds"
  else .stuck "call guarded"
def Zvu(st:St)(G:X)(c a b:Operand):Option Sc :=
 match st.rd G c with
 | some (ϒ,[.bool (.B ϐ)])=>match st.rd G a with|some (ϒ,[s])=>ϑ s|_=>ϓ
 | some (ϒ,[.bool (.B ϒ)])=>match st.rd G b with|some (ϒ,[s])=>ϑ s|_=>ϓ
 | some (ϒ,[.bool cx])=>match st.rd (Zik G cx) a,st.rd (Zik G (Zh6 cx)) b with
  | some (ϒ,[.bool x]),ϑ (ϒ,[.bool y])=>ϑ (.bool (Z10y cx x y))
  | some (ϒ,[.int k x]),ϑ (ϒ,[.int k' y])=>if k=k' then ϑ (.int k (.ite cx x y))else ϓ
  | some (ϒ,[.str x]),ϑ (ϒ,[.str y])=>ϑ (.str (.ite cx x y))
  | _,_=>ϓ
 | _=>ϓ
def Zyx(E:Env)(st:St)(G:X)(op:Op):Option (List X×CV) :=
 match op with
 | .pick c a b=>(Zvu st G c a b).map λs=>([],(ϒ,[s]))
 | op=>Z114 E.T st.hp (st.rd G) op
def scOf:SV->Option Sc | .cv (ϒ,[s])=>ϑ s|_=>ϓ
def Zyy:List SV->Option (List Sc)
 | []=>ϑ []
 | s::l=>do let a <- scOf s;let b <- Zyy l;ϑ (a::b)
def Zdf(st:St)(G:X)(c:Call):Option (Nat×List SV) :=
 match c.callee with
 | .value (.func f)=>(Zio st G c.args.toList).map λargs=>(f,args)
 | .value (.tmp t)=>match st.slot t,Zio st G c.args.toList with
  | .fn f first caps,ϑ args=>ϑ (f,(first.map λs=>.cv (ϒ,[s]))++args++(caps.map λs=>.cv (ϒ,[s])))
  | _,_=>ϓ
 | _=>ϓ
def Z11k(o:Oper)(st:St)(x:Operand)(k:St->Tree):Tree :=
 match x with
 | .tmp t=>match st.slot t with
  | .tup l=>k (st.put o.dst (.tup l))
  | .fn f a b=>k (st.put o.dst (.fn f a b))
  | _=>.stuck "move"
 | .func f=>k (st.put o.dst (.fn f [] []))
 | _=>.stuck "move"
def Z1d3(E:Env)(o:Oper)(st:St)(k:St->Tree):Tree :=
 match o.op with
 | .extract (.tmp t) i=>match st.slot t with
  | .tup l=>match l[i]? with
   | some c=>k (st.put o.dst (.cv c))
   | none=>.stuck "extract"
  | _=>.stuck "extract"
 | .move x | .assign x=>Z11k o st x k
 | .alloc t=>match E.T.get t with
  | some i=>.bindN (k (St.put { st with n:=st.n+1,hp:=.cells st.n t i.zs::st.hp } o.dst (.cv (ϒ,[.ptr st.n 0]))))
  | none=>.stuck "alloc"
 | .box t x=>match st.rd (.B ϐ) x with
  | some (g,cs)=>if(g=ϐ\/cs.length=1)/\cs.all (Sc.bd st.n)=ϐ then .bindN (k (St.put { st with n:=st.n+1,hp:=.cells st.n t cs::st.hp } o.dst (.cv (ϒ,[.ptr st.n 0]))))else .stuck "box"
  | none=>.stuck "box"
 | .store t a x=>match st.rd (.B ϐ) a,st.rd (.B ϐ) x,E.T.get t with
  | some (ϒ,[.ptr v off]),ϑ (g,cs),ϑ i=>match Zz st.hp v with
   | some (ty,old) =>
    if cs.length=i.ks.length/\(g=ϐ\/cs.length=1)/\off+cs.length<=old.length/\cs.all (Sc.bd st.n)=ϐ then
     k (St.put { st with hp:=Zbh st.hp v ty (old.take off++cs++old.drop (off+cs.length)) } o.dst (.tup []))
    else .stuck "store size"
   | none=>.stuck "store where"
  | _,_,_=>.stuck "store"
 | .makeFunc (.func f) first caps=>match (Zio st (.B ϐ) first.toList).bind Zyy,(Zio st (.B ϐ) caps.toList).bind Zyy with
  | some a,ϑ b=>k (st.put o.dst (.fn f a b))
  | _,_=>.stuck "makeFunc"
 | _=>.stuck "an operation that is not served"
def rowX:List Sc->Option X
 | []=>ϑ .nilL
 | .int k x::l=>(rowX l).map (.consI k x ·)
 | .bool x::l=>(rowX l).map (.consB x ·)
 | .str x::l=>(rowX l).map (.consS x ·)
 | .val x::l=>(rowX l).map (.consV x ·)
 | .nils::l=>(rowX l).map (.consV .nilS ·)
 | _::_=>ϓ
def Z11l:Kd->Sc->Bool
 | .int k,.int k' _=>k == k'
 | .bool,.bool _=>ϐ
 | .str,.str _=>ϐ
 | .sl _,.val _ | .oth,.val _ | .sl _,.nils | .oth,.nils=>ϐ
 | _,_=>ϒ
def Z7j:List Kd->List Sc->Bool
 | [],[]=>ϐ
 | k::ks,s::ss=>Z11l k s && Z7j ks ss
 | _,_=>ϒ
def Z11m(ks:List Kd):Nat->List Sc->Option X
 | 0,_=>ϑ .nilR
 | n+1,cs=>do
  let r <- Z11m ks n (cs.take (n*ks.length))
  let l:=(cs.drop (n*ks.length)).take ks.length
  let x <- rowX l
  if Z7j ks l=ϐ then ϑ (.snocR r x)else ϓ
def reps(zs:List Sc):Nat->List Sc
 | 0=>[]
 | n+1=>reps zs n++zs
def Ztl(r y:X):X:=match y with | .snocR .nilR x=>.snocR r x|y=>.catR r y
def Zag(v:Nat):List Ent:=hp.map fun | .row u e ks r=>if u=v then .rd u ks r else .row u e ks r|e=>e
def Z96(v:Nat):List Ent:=hp.filter fun | .row u _ _ _=>!(u == v)|_=>ϐ
def Zci(n:Nat):SV:=.cv (ϒ,[.val (.var n)])
def Zgo{α:Type}(c:Nat)(cs l:List α):List α:=l.take c++cs++l.drop (c+cs.length)
def Zf8(v:Nat)(r:X):Ent->Ent
 | .row u e ks r'=>if u=v then .row u e ks r else .row u e ks r'
 | e=>e
def setRow(v:Nat)(r:X):List Ent:=hp.map (Zf8 v r)
def Z1d4(E:Env)(o:Oper)(st:St)(k:St->Tree):Option Tree :=
  match o.op with
  | .move (.const (.slice ϓ 0 0)) | .assign (.const (.slice ϓ 0 0))=>match E.T.tag o.type with
    | some (.slice e)=>match E.T.get e with
      | some ei=>ϑ (.letV .nilS (k (St.put { st with n:=st.n+1,hp:=.row st.n e ei.ks .nilR::st.hp } o.dst (Zci st.n))))
      | none=>ϓ
    | _=>ϓ
  | .buildSlice t len parts=>match E.T.tag t with
    | some (.slice e)=>match E.T.get e,Zf7 (st.rd (.B ϐ)) parts.toList with
      | some ei,ϑ ps=>match Z5z ((List.range len).map λi=>(i*ei.ks.length,e,ei.ks.length,ei.agg)) (reps ei.zs len) ps with
        | some cs=>match Z11m ei.ks len cs with
          | some r=>if r.bd st.n=ϐ/\len*ei.ks.length<=16777216/\0<ei.ks.length/\cs.length=len*ei.ks.length then
              ϑ (.bindO (k (St.put { st with n:=st.n+1,hp:=.row st.n e ei.ks r::st.hp } o.dst (Zci st.n))))else ϓ
          | none=>ϓ
        | none=>ϓ
      | _,_=>ϓ
    | _=>ϓ
  | .convert src dst x=>match E.T.tag src,E.T.tag dst,st.rd (.B ϐ) x with
    | some .str,ϑ (.slice e),ϑ (ϒ,[.str a])=>match E.T.tag e with
      | some (.int .u8)=>if a.bd st.n=ϐ then ϑ (.bindV (k (St.put { st with n:=st.n+1,hp:=.rd st.n [.int .u8] (.rOf a)::st.hp } o.dst (Zci st.n))))else ϓ
      | _=>ϓ
    | some (.slice e),ϑ .str,ϑ (ϒ,[.val (.var v)])=>match E.T.tag e,Z19 st.hp v with
      | some (.int .u8),ϑ ([.int .u8],r)=>ϑ (k (st.put o.dst (.cv (ϒ,[.str (.ofR r)]))))
      | _,_=>ϓ
    | _,_,_=>ϓ
  | .slice t x lo hi ϓ=>match E.T.tag t,st.rd (.B ϐ) x with
    | some (.slice e),ϑ (ϒ,[.val (.var v)])=>match E.T.get e,Z19 st.hp v with
      | some ei,ϑ (ks,r)=>match Znu (st.rd (.B ϐ)) (.I 0) lo,Znu (st.rd (.B ϐ)) (.rlen r) hi with
        | some l,ϑ h=>if ks.length=ei.ks.length/\l.bd st.n=ϐ/\h.bd st.n=ϐ/\r.bd st.n=ϐ then
            ϑ (Zc5 (.B ϐ) (Z3o 0 l++(Zdd l h++Zdd h (.rlen r)))
              (.bindF v (k (St.put { st with n:=st.n+1,hp:=.rd st.n ks (.dropR (.takeR r h) l)::Zag st.hp v } o.dst (Zci st.n)))))else ϓ
        | _,_=>ϓ
      | _,_=>ϓ
    | _,_=>ϓ
  | .call c=>match c.callee,c.args.toList,c.argTypes.toList with
    | .builtin .append,[x,y],[t,t']=>match E.T.tag t,st.rd (.B ϐ) x,st.rd (.B ϐ) y with
      | some (.slice e),ϑ (ϒ,[.val (.var v)]),ϑ (ϒ,[.val (.var u)])=>match E.T.get e,Zch st.hp v,Z19 st.hp u with
        | some ei,ϑ (e',ks,r),ϑ (ks',ry) =>
          if t=t'/\e'=e/\ks=ei.ks/\ks'=ei.ks/\0<ei.ks.length/\0<ei.bytes/\r.bd st.n=ϐ/\ry.bd st.n=ϐ then
            ϑ (.need (.le (.add (.rlen r) (.rlen ry)) (.I (140737488355328 / (ei.bytes:Int))))
              (.bindO (k (St.put { st with n:=st.n+1,hp:=.row st.n e ei.ks (Ztl r ry)::Z96 st.hp v } o.dst (Zci st.n)))))else ϓ
        | _,_,_=>ϓ
      | _,_,_=>ϓ
    | _,_,_=>ϓ
  | .store t a x=>match st.rd (.B ϐ) a,st.rd (.B ϐ) x,E.T.get t with
    | some (ϒ,[.eptr v esz i c]),ϑ (g,cs),ϑ ti=>match Zch st.hp v with
      | some (e,ks,r)=>match rowX (Zgo c cs (Z25 r i 0 ks))with
        | some rx=>if ks.length=esz/\c+cs.length<=esz/\ti.ks.length=cs.length/\0<cs.length/\(g=ϐ\/cs.length=1)/\0<esz/\Z7j ks (Zgo c cs (Z25 r i 0 ks))=ϐ/\r.bd st.n=ϐ/\i.bd st.n=ϐ/\rx.bd st.n=ϐ then
            ϑ (Zc5 (.B ϐ) (Z3o 0 i++[.lt i (.rlen r)])
              (k (St.put { st with hp:=setRow st.hp v (.setR r i rx) } o.dst (.tup []))))else ϓ
        | none=>ϓ
      | none=>ϓ
    | _,_,_=>ϓ
  | _=>ϓ
def Z1d5:Option Tmp->Bool
 | none=>ϒ
 | some d=>ops.any λo=>match o.op with
  | .call c=>match c.callee,c.args.toList with
   | .builtin .clear,[.tmp t]=>t == d
   | _,_=>ϒ
  | _=>ϒ
def Z17k(t:Nat):Nat:=(ops.filter λo=>match o.op with | .slice t' _ _ _ _=>t' == t|_=>ϒ).length
def Z11n(E:Env)(ops:List Oper)(o:Oper)(st:St)(k:St->Tree):Option Tree :=
 match o.op with
 | .slice t x lo ϓ ϓ=>match E.T.tag t,st.rd (.B ϐ) x with
  | some (.slice e),ϑ (ϒ,[.val (.var v)])=>match E.T.get e,Zch st.hp v,Znu (st.rd (.B ϐ)) (.I 0) lo with
   | some ei,ϑ (e',ks,r),ϑ l=>if Z1d5 ops o.dst=ϐ/\e'=e/\ks=ei.ks/\v<st.n/\l.bd st.n=ϐ then
     ϑ (Zc5 (.B ϐ) (Z3o 0 l++Zdd l (.rlen r)) (k (st.put o.dst (.cv (ϒ,[.val (.subS ks.length (.var v) l)])))))else ϓ
   | _,_,_=>ϓ
  | _,_=>ϓ
 | .slice t x ϓ (ϑ hi) ϓ=>match E.T.tag t,st.rd (.B ϐ) x with
  | some (.slice e),ϑ (ϒ,[.val (.var v)])=>match E.T.get e,Zch st.hp v,Znu (st.rd (.B ϐ)) (.I 0) (ϑ hi)with
   | some ei,ϑ (e',ks,r),ϑ h=>if e'=e/\ks=ei.ks/\h.bd st.n=ϐ/\r.bd st.n=ϐ/\Z17k ops t<=1 then
     ϑ (Zc5 (.B ϐ) (Z3o 0 h++Zdd h (.rlen r)) (.bindO (k (St.put { st with n:=st.n+1,hp:=.row st.n e ks (.takeR r h)::Z96 st.hp v } o.dst (Zci st.n)))))else ϓ
   | _,_,_=>ϓ
  | _,_=>ϓ
 | .call c=>match c.callee,c.args.toList,c.argTypes.toList with
  | .builtin .clear,[y],[t]=>match E.T.tag t,st.rd (.B ϐ) y with
   | some (.slice e),ϑ (ϒ,[.val (.subS n0 (.var v) l)])=>match E.T.get e,Zch st.hp v with
    | some ei,ϑ (e',ks,r)=>match rowX ei.zs with
     | some zx=>if e'=e/\ks=ei.ks/\n0=ks.length/\0<ks.length/\l.bd st.n=ϐ/\r.bd st.n=ϐ/\zx.bd st.n=ϐ/\Z7j ks ei.zs=ϐ then
       ϑ (Zc5 (.B ϐ) (Z3o 0 l++Zdd l (.rlen r)) (k (St.put { st with hp:=setRow st.hp v (.clrR r l zx) } o.dst (.tup []))))else ϓ
     | none=>ϓ
    | _,_=>ϓ
   | _,_=>ϓ
  | _,_,_=>ϓ
 | _=>ϓ
def Sc.asm(x:X)(b:Bool):Sc->Sc
 | .bool y=>.bool (X.asm x b y)
 | s=>s
def SV.asm(x:X)(b:Bool):SV->SV
 | .cv (g,cs)=>.cv (g,cs.map (Sc.asm x b))
 | .gd g (h,cs)=>if X.asm x b g=.B ϐ then .cv (h,cs.map (Sc.asm x b))else .gd (X.asm x b g) (h,cs.map (Sc.asm x b))
 | s=>s
def Zyz(x:X)(b:Bool)(fr:List SV)(n:Nat):List SV:=fr.map λs=>if(SV.asm x b s).bd n=ϐ then SV.asm x b s else s
def St.asm(st:St)(x:X)(b:Bool):St:=match x with
 | .not y=>{ st with fr:=Zyz y (!b) st.fr st.n }
 | x=>{ st with fr:=Zyz x b st.fr st.n }
abbrev InlF:=Nat->List SV->St->(SV->St->Tree)->Option Tree
def Z11o(E:Env)(ops:List Oper)(o:Oper)(st:St):Option X :=
 match Z94 ops o st with
 | none=>ϓ
 | some G =>
  if G=.B ϒ\/G=.B ϐ then ϓ else
  match Zyx E st G o.op with
  | some _=>ϓ
  | none =>
   let pure:=match o.op with
    | .call c=>match Zdf st G c with
     | some (f,args)=>!(E.inl.any λp=>p.1 == f) && (Ztk (args.flatMap SV.ptrs)).isEmpty && (match Zqm E.T E.tups (E.ownF f) o.type st.n with|some (_,_,es)=>es.isEmpty|none=>ϒ)
     | none=>ϒ
    | _=>ϒ
   if pure=ϐ then ϓ else
   match o.guard with
   | some (j,_)=>match (ops[j]?).bind (·.dst)with
    | some d=>match st.slot d with
     | .cv (ϒ,[.bool x])=>if x.bd st.n=ϐ then ϑ x else ϓ
     | .gd g _=>if g.bd st.n=ϐ then ϑ g else ϓ
     | _=>ϓ
    | none=>ϓ
   | none=>ϓ
def Z17l(E:Env)(inl:InlF)(ops:List Oper)(o:Oper)(st:St)(k:St->Tree):Tree :=
 match Z94 ops o st with
 | none=>.stuck "guard"
 | some G =>
  if G=.B ϒ then k (st.put o.dst (.tup []))else
  match (if G=.B ϐ then(match Z11n E ops o st k with|some t=>ϑ t|none=>Z1d4 E o st k)else ϓ)with
  | some t=>t
  | none =>
  match Zyx E st G o.op with
  | some (ns,c)=>Zc5 G ns (k (st.put o.dst (if G=.B ϐ then .cv c else .gd G c)))
  | none=>match o.op with
   | .call c=>match Zdf st G c with
    | some (f,args)=>match (if G=.B ϐ then inl f args st (λr s=>k (St.put { st with n:=s.n,d:=s.d,hp:=s.hp } o.dst r))else ϓ)with
     | some t=>t
     | none=>Z11j E o G st k f args
    | none=>.stuck "call"
   | _=>if G=.B ϐ then Z1d3 E o st k else .stuck "a guarded effect"
def Z1gv:X->Bool | .rV ..=>ϐ|_=>ϒ
def Z1d6(o:Oper):Option (Nat×Nat):=match o.op with
 | .call c=>match c.callee,c.args.toList,c.argTypes.toList with
  | .builtin .len,[.tmp t],[ty]=>ϑ (t,ty)
  | .builtin .append,[_,.tmp t],[_,ty]=>ϑ (t,ty)
  | _,_,_=>ϓ
 | _=>ϓ
def Z11p(E:Env)(o:Oper)(st:St):Option (Nat×X×List Kd):=match Z1d6 o with
 | some (t,ty)=>match st.slot t,E.T.tag ty with
  | .cv (ϒ,[.val x]),ϑ (.slice e)=>match E.T.get e with
   | some ei=>if Z1gv x=ϐ/\x.bd st.n=ϐ then ϑ (t,x,ei.ks)else ϓ
   | none=>ϓ
  | _,_=>ϓ
 | none=>ϓ
def Zz0(E:Env)(inl:InlF)(ops:List Oper)(o:Oper)(st:St)(k:St->Tree):Tree :=
 match (if Z94 ops o st=ϑ (.B ϐ)then Z11p E o st else ϓ)with
 | some (t,x,ks)=>.letV x (.openR st.n ks st.hp (Z17l E inl ops o (St.put { st with n:=st.n+2,hp:=.rd st.n ks (.var (st.n+1))::st.hp } (ϑ t) (Zci st.n)) k))
 | none=>Z17l E inl ops o st k
def Z17m(E:Env)(inl:InlF)(ops:List Oper)(o:Oper)(st:St)(k:St->Tree):Tree :=
 match Z11o E ops o st with
 | some x=>.ite x (Zz0 E inl ops o (st.asm x ϐ) k) (Zz0 E inl ops o (st.asm x ϒ) k)
 | none=>Zz0 E inl ops o st k
def Z17n(E:Env)(inl:InlF)(ops:List Oper)(o:Oper)(st:St)(k:St->Tree):Tree :=
 match Z11o E ops o st with
 | some x=>.ite x (Z17m E inl ops o (st.asm x ϐ) k) (Z17m E inl ops o (st.asm x ϒ) k)
 | none=>Zz0 E inl ops o st k
def Zvv(st:St):Operand->Bool
 | .tmp t=>(match st.slot t with | .cv (ϒ,[.nils])=>ϐ|_=>ϒ)
 | _=>ϒ
def Z1bm(E:Env)(o:Oper)(st:St):Option (Nat×Nat×List Kd) :=
 match o.op with
 | .call c=>match c.callee,c.args.toList,c.argTypes.toList with
  | .builtin .append,[x,y],[ty,_]=>match (if Zvv st x=ϐ then ϑ x else if Zvv st y=ϐ then ϑ y else ϓ),E.T.tag ty with
   | some (.tmp t),ϑ (.slice e)=>(E.T.get e).map λei=>(t,e,ei.ks)
   | _,_=>ϓ
  | _,_,_=>ϓ
 | _=>ϓ
def Z1gw(E:Env)(o:Oper)(st:St):List Nat :=
 if(E.joins.any λj=>j.1 == 11)=ϐ then
  match o.op with
  | .buildSlice _ _ parts=>parts.toList.flatMap λp=>match st.rd (.B ϐ) p.2 with|some (_,cs)=>Z11f cs|none=>[]
  | _=>[]
 else[]
def Zvw(hp:List Ent):List Nat->List Ent
 | []=>hp
 | v::vs=>Zvw (Zag hp v) vs
def exOp(E:Env)(inl:InlF)(ops:List Oper)(o:Oper)(st:St)(k:St->Tree):Tree :=
 match Z1bm E o st with
 | some (t,e,ks)=>.letV .nilS (Z17n E inl ops o (St.put { st with n:=st.n+1,hp:=.row st.n e ks .nilR::st.hp } (ϑ t) (Zci st.n)) k)
 | none=>Z17n E inl ops o { st with hp:=Zvw st.hp (Z1gw E o st) } k
def Z17o(E:Env)(inl:InlF)(ops:List Oper):List Oper->St->(St->Tree)->Tree
 | [],st,k=>k st
 | o::rest,st,k=>exOp E inl ops o st λst=>Z17o E inl ops rest st k
def Z8e:List Oper->List (Nat×Nat)->List Nat
  | [],_=>[]
  | o::rest,m =>
    let root (t:Nat):Nat:=match m.find? λp=>p.1 == t with|some p=>p.2|none=>t
    let m':=match o.dst,o.op with
      | some d,.fieldAddr _ (.tmp q) _=>(d,root q)::m
      | some d,.nilCheck (.tmp q)=>(d,root q)::m
      | some d,.indexAddr _ (.tmp q) _=>(d,root q)::m
      | some d,.move (.tmp q)=>(d,root q)::m
      | _,_=>m
    (match o.op with
      | .store _ (.tmp p) _=>[root p]
      | .call c=>(match c.callee with | .value (.tmp t)=>[root t] | .value _=>[] | _=>[])++(match c.callee with | .builtin _=>[] | _=>c.args.toList.filterMap fun | .tmp p=>ϑ (root p)|_=>ϓ)
      | _=>[])++Z8e rest m'
structure Inv(C:Cx)(st:St)(J:List V)(a:Act)(w:World):Prop where
 len:J.length=st.n
 size:st.fr.length=a.tmps.size
 fr:∀j,(st.slot j).rel J (a.tmps.getD j undef)
 bdf:∀s∈st.fr,s.bd st.n=ϐ
 bdh:st.hp.all (Ent.bd st.n)=ϐ
 defers:a.defers=[]
 rel:Rel C.B J st.hp w
variable {C:Cx} {st:St} {J:List V} {a:Act} {w:World}
def St.slot_bd{st:St}(h:∀s∈st.fr,s.bd st.n=ϐ)(j:Nat):(st.slot j).bd st.n=ϐ:=by
 unfold St.slot;rw[qy1];cases hj:st.fr[j]? with
 | none=>rfl
 | some s=>exact h s (qy6 hj)
variable{s:SV}
def Inv.put(h:Inv C st J a w)(d:Option Tmp)(hs:s.rel J v):Inv C (st.put d s) J (a.put d v) w:=by
 cases d with
 | none=>exact h
 | some d =>
  have hr:(if s.bd st.n=ϐ then s else SV.dead).rel J v:=by split;exact hs;trivial
  refine⟨h.len,by simp[St.put,Act.put,h.size],λj=>?_,λx hx=>?_,h.bdh,h.defers,h.rel⟩
  ·simp only[St.put,St.slot,Act.put,qy1,Ϙ,Ϯ,Array.getElem?_setIfInBounds];by_cases hj:d=j
   ·subst hj;by_cases hd:d<st.fr.length
    ·simp only[if_true,hd,ϝ (show d<a.tmps.size by rw[<- h.size];exact hd),ϧ];exact hr
    simp only[if_true,hd,if_false,ϛ (show ¬d<a.tmps.size by rw[<- h.size];exact hd),ϱ];trivial
   simp only[hj,if_false];have:=h.fr j;simpa only[St.slot,qy1,Ϙ]using this
  rcases ϥ hx with hx|rfl
  ·exact h.bdf x hx
  split
  ·assumption
  rfl
def Inv.over(h:Inv C st J a w)(t:Nat)(hs:s.rel J (a.tmps.getD t undef)):Inv C (st.put (ϑ t) s) J a w:=by
 have hr:(if s.bd st.n=ϐ then s else SV.dead).rel J (a.tmps.getD t undef):=by split;exact hs;trivial
 refine⟨h.len,by simp[St.put,h.size],λj=>?_,λx hx=>?_,h.bdh,h.defers,h.rel⟩
 ·simp only[St.put,St.slot,qy1,Ϯ];by_cases hj:t=j
  ·subst hj;by_cases hd:t<st.fr.length
   ·simp only[if_true,hd,ϧ];exact hr
   simp only[if_true,hd,if_false,ϱ];trivial
  simp only[hj,if_false];have:=h.fr j;simpa only[St.slot,qy1]using this
 rcases ϥ hx with hx|rfl
 ·exact h.bdf x hx
 split
 ·assumption
 rfl
def Inv.ext(h:Inv C st J a w)(vs:List V):Inv C { st with n:=st.n+vs.length } (J++vs) a w:=by
 have ha:Z18 st.n J (J++vs):=by rw[<- h.len];exact Z18.app J vs
 exact⟨by simp[h.len],h.size,λj=>SV.rel_bd ha _ (St.slot_bd h.bdf j) _ (h.fr j),λs hs=>SV.bd_mono O1 s (h.bdf s hs),ϕ.2 λe he=>Ent.bd_mono O1 e (ϕ.1 h.bdh e he),h.defers,h.rel.ext ha h.bdh⟩
variable{w':World}
def Inv.world(h:Inv C st J a w)(hr:Rel C.B J st.hp w'):Inv C st J a w':=⟨h.len,h.size,h.fr,h.bdf,h.bdh,h.defers,hr⟩
def Inv.heap(h:Inv C st J a w){hp:List Ent}(hb:hp.all (Ent.bd st.n)=ϐ)(hr:Rel C.B J hp w'):Inv C { st with hp:=hp } J a w':=⟨h.len,h.size,h.fr,h.bdf,hb,h.defers,hr⟩
variable{x:X}{b:Bool}
def Sc.asm_ok{J:List V}(h:(x.ev J).toB=b)(s:Sc):(Sc.asm x b s).ev J=s.ev J:=by cases s<;>simp only[Sc.asm];simp only[Sc.ev,X.asm_ok h]
def SV.asm_ok{J:List V}(h:(x.ev J).toB=b)(hr:s.rel J v):(SV.asm x b s).rel J v:=by
 have hm:∀cs:List Sc,(cs.map (Sc.asm x b)).map (Sc.ev J)=cs.map (Sc.ev J):=by intro cs;rw[List.map_map];exact ϫ λs _=>Sc.asm_ok h s
 have hc:∀g (cs:List Sc),CV.ev J (g,cs.map (Sc.asm x b))=CV.ev J (g,cs):=by
  intro g cs;cases g
  ·match cs with
   | []=>rfl
   | [s]=>simp only[List.map_cons,List.map_nil,CV.ev,Sc.asm_ok h]
   | _::_::_=>rfl
  simp only[CV.ev,hm]
 cases s with
 | cv c =>
  obtain⟨g,cs⟩:=c;exact(hr).trans (hc g cs).symm
 | gd g c =>
  obtain⟨i,cs⟩:=c;obtain⟨h1,h2⟩:=hr;have hg:=X.asm_ok h g;simp only[SV.asm];split
  ·rename_i e;rw[e]at hg;exact(h1 hg.symm).trans (hc i cs).symm
  exact⟨λhg'=>(h1 (hg▸hg')).trans (hc i cs).symm,λhg'=>h2 (hg▸hg')⟩
 | _=>exact hr
def Inv.asm0(h:Inv C st J a w)(hx:(x.ev J).toB=b):Inv C { st with fr:=Zyz x b st.fr st.n } J a w:=by
 refine⟨h.len,by simp[Zyz,h.size],λj=>?_,λs hs=>?_,h.bdh,h.defers,h.rel⟩
 ·have:=h.fr j;simp only[St.slot,Zyz,qy1,ϯ]at this⊢;cases hj:st.fr[j]? with
  | none=>trivial
  | some s =>
   rw[hj]at this;simp only[ϳ,ϧ]at this⊢;split
   ·exact SV.asm_ok hx this
   exact this
 simp only[Zyz,Ϛ]at hs;obtain⟨s',hs',rfl⟩:=hs;split
 ·assumption
 exact h.bdf s' hs'
def Inv.asm(h:Inv C st J a w)(hx:(x.ev J).toB=b):Inv C (st.asm x b) J a w:=by
 unfold St.asm;split
 ·rename_i y;refine h.asm0 ?_;rw[<- hx];simp[X.ev]
 exact h.asm0 hx
def St.asm_d(st:St)(x:X)(b:Bool):(st.asm x b).d=st.d:=by unfold St.asm;split<;>rfl
def Inv.back{st':St}{J':List V}{a':Act}(h:Inv C st J a w)(h':Inv C st' J' a' w')(hp:J <+: J'):Inv C { st with n:=st'.n,d:=st'.d,hp:=st'.hp } J' a w':=by
 obtain⟨t,rfl⟩:=hp;have hag:Z18 st.n J (J++t):=by rw[<- h.len];exact Z18.app J t
 have hle:st.n<=st'.n:=by rw[<- h.len,<- h'.len];simp
 exact⟨h'.len,h.size,λj=>SV.rel_bd hag _ (St.slot_bd h.bdf j) _ (h.fr j),λs hs=>SV.bd_mono hle s (h.bdf s hs),h'.bdh,h.defers,h'.rel⟩
variable{G:X}{c:CV}
def Inv.rd_ok(h:Inv C st J a w)(hG:(G.ev J).toB=ϐ){x:Operand}(hx:st.rd G x=ϑ c):a.eval x=CV.ev J c:=by
 cases x with
 | tmp t =>
  have:=h.fr t;simp only[St.rd]at hx;split at hx
  ·rename_i c' hs;simp at hx;subst hx;rw[hs]at this;exact this
  ·rename_i g c' hs;simp only[Ϣ,Ϡ.injEq]at hx;obtain⟨hb,rfl⟩:=hx;rw[hs]at this;exact this.1 (X.bears_ok J G g hb hG)
  cases hx
 | const v =>
  simp only[St.rd,Ϟ]at hx;obtain⟨s,hs,rfl⟩:=hx;exact(Sc.ofV_ok hs).symm
 | global g=>simp[St.rd]at hx
 | func f=>simp[St.rd]at hx
def Inv.rdA_ok(h:Inv C st J a w)(hG:(G.ev J).toB=ϐ){x:Operand}{c:SV}(hx:st.rdA G x=ϑ c):a.eval x=c.ev J:=by
 unfold St.rdA at hx;split at hx
 ·rename_i c' hc;simp at hx;subst hx;exact h.rd_ok hG hc
 split at hx
 ·rename_i t _;have:=h.fr t;split at hx
  ·rename_i f a' b' hs;simp at hx;subst hx;rw[hs]at this;exact this
  cases hx
 ·simp at hx;subst hx;rfl
 cases hx
def Inv.rdAll_ok(h:Inv C st J a w)(hG:(G.ev J).toB=ϐ):∀{l:List Operand} {r:List SV},Zio st G l=ϑ r->l.map a.eval=r.map (SV.ev J):=by
 intro l;induction l with
 | nil=>intro r hr;simp[Zio]at hr;subst hr;rfl
 | cons x l ih =>
  intro r hr;simp only[Zio,ϖ,ϔ,Ϡ.injEq]at hr;obtain⟨s,hs,r',hr',rfl⟩:=hr;simp[h.rdA_ok hG hs,ih hr']
variable{B:Base}
def Rel.forMem{hp:List Ent}(h:Rel B J hp w)(b:Bool):Rel B J (forMem b hp) w:=by
 unfold Sx.forMem;split
 ·exact h
 ·exact h.sublist (List.nil_sublist _)
variable{ty:Nat}{cs:List Sc}
def Zax{hp:List Ent}{v:Nat}{e:Ent}(he:e∈Zbh hp v ty cs):(e=.cells v ty cs/\∃ty' cs',Ent.cells v ty' cs'∈hp)\/(e∈hp/\∀ty' cs',e≠.cells v ty' cs'):=by
 simp only[Zbh,Ϛ]at he;obtain⟨x,hx,rfl⟩:=he;cases x with
 | cells u ty' cs' =>
  by_cases hu:u=v
  ·subst hu;left;simp;exact⟨ty',cs',hx⟩
  right;simp only[hu];exact⟨hx,λ_ _ h=>by simp at h;exact ϟ h.1 hu⟩
 | _=>right;exact⟨hx,λ_ _ h=>by cases h⟩
def Rel.update{hp:List Ent}{v ty0:Nat}{cs0:List Sc}(h:Rel B J hp w)(hm:Ent.cells v ty0 cs0∈hp)(hmod:Mod [(J.getD v (.i 0)).toN] w w')(hb:(Ent.cells v ty cs).holds J w'):Rel B J (Zbh hp v ty cs) w':=by
 have hown:=h.own _ hm rfl _ rfl;have hsep:∀e∈hp,(∀ty' cs',e≠.cells v ty' cs')->¬e.fp J (J.getD v (.i 0)).toN:=by
  intro e he hne hk;obtain⟨l1,l2,rfl⟩:=Ϭ hm;have hp:=h.sep;unfold Zt at hp;rw[Ϫ]at hp;obtain⟨p1,p2,p3⟩:=hp;rw[Ϥ]at p2;rcases qy13.1 he with he|he
  ·exact p3 e he _ (qy8 ..) (.inr rfl) _ hk rfl
  rcases Ϧ.1 he with rfl|he
  ·exact hne _ _ rfl
  exact p2.1 e he (.inl rfl) _ rfl hk
 refine⟨h.mod.trans hmod (λk hk=>by simp at hk;subst hk;rcases hown with h1|h1;exact .inr h1;exact .inl h1),λe he=>?_,λe he hw k hk=>?_,?_⟩
 ·rcases Zax he with⟨rfl,-⟩|⟨he,hne⟩
  ·exact hb
  exact Ent.stable (h.holds e he) λk hk=>hmod.block k (Ent.bound (h.holds e he) hk) (λhn=>by simp at hn;subst hn;exact hsep e he hne hk)
 ·rcases Zax he with⟨rfl,-⟩|⟨he,-⟩
  ·have hk':=hk;rw[hk'];exact hown
  exact h.own e he hw k hk
 unfold Zbh Zt;rw[ϰ];refine ϸ.imp_of_mem (λ{x y} hx hy hxy=>?_) h.sep;have key:∀e:Ent,(match e with | .cells u ty' cs'=>if u=v then Ent.cells v ty cs else .cells u ty' cs' | e=>e).wr=e.wr /\
   ∀k,(match e with | .cells u ty' cs'=>if u=v then Ent.cells v ty cs else .cells u ty' cs' | e=>e).fp J k↔e.fp J k:=by
  intro e;cases e with
  | cells u ty' cs' =>
   by_cases hu:u=v
   ·subst hu;simp[Ent.wr,Ent.fp]
   simp[hu]
  | _=>simp
 intro hw k h1 h2;exact hxy (by rw[<- (key x).1,<- (key y).1];exact hw) k (((key x).2 k).1 h1) (((key y).2 k).1 h2)
variable{n:Nat}
def Ztm{hp:List Ent}{v:Nat}(h:hp.all (Ent.bd n)=ϐ)(hc:cs.all (Sc.bd n)=ϐ):(Zbh hp v ty cs).all (Ent.bd n)=ϐ:=by
 refine ϕ.2 λe he=>?_;rcases Zax he with⟨rfl,ty',cs',hm⟩|⟨he,-⟩
 ·have:=ϕ.1 h _ hm;simp only[Ent.bd,ϗ]at this⊢;exact⟨this.1,hc⟩
 exact ϕ.1 h e he
def Rel.disj{hp:List Ent}(h:Rel B J hp w){e e':Ent}(he:e∈hp)(he':e'∈hp)(hne:e≠e')(hw:e.wr=ϐ\/e'.wr=ϐ){k:Nat}(hk:e.fp J k)(hk':e'.fp J k):False:=by
 obtain⟨l1,l2,rfl⟩:=Ϭ he;have hp:=h.sep;unfold Zt at hp;rw[Ϫ]at hp;obtain⟨p1,p2,p3⟩:=hp;rw[Ϥ]at p2;rcases qy13.1 he' with he' | he'
 ·exact p3 e' he' _ (qy8 ..) hw.symm _ hk' hk
 rcases Ϧ.1 he' with rfl|he'
 ·exact hne rfl
 exact p2.1 e' he' hw _ hk hk'
def Z60(ms:List Ent)(e:Ent): (Zgn ms e).wr=e.wr/\(∀k,(Zgn ms e).fp J k↔e.fp J k)/\((∃u ty cs,e=.cells u ty cs/\∃ty' cs',Zz ms u=ϑ (ty',cs')/\Zgn ms e=.cells u ty' cs')\/(Zgn ms e=e/\∀u ty cs,e=.cells u ty cs->Zz ms u=ϓ)):=by
 cases e with
 | cells u ty cs =>
  cases hc:Zz ms u with
  | none=>simp[Zgn,hc]
  | some p=>obtain⟨ty',cs'⟩:=p;simp[Zgn,hc,Ent.wr,Ent.fp]
 | _=>simp[Zgn]
def Rel.setAll{hp ms:List Ent}{mods:List Nat}{gs:List Nat}(h:Rel B J hp w)(hmod:Mod ((mods.map λv=>(J.getD v (.i 0)).toN)++gs) w w')(hgs:∀k∈gs,(B.w0.heap.size<=k\/k∈B.fp)/\∀e∈hp,¬e.fp J k)(hin:∀v∈mods,(∃ty cs,Ent.cells v ty cs∈hp)/\Zz ms v≠ϓ)(hh:∀x∈ms,x.holds J w'):Rel B J (setAll hp ms) w':=by
 have hfree:∀e∈hp,(∀u ty cs,e=.cells u ty cs->Zz ms u=ϓ)->∀k,e.fp J k->k ∉ (mods.map λv=>(J.getD v (.i 0)).toN)++gs:=by
  intro e he hno k hk hm;rcases qy13.1 hm with hm|hm
  case inr=>exact(hgs k hm).2 e he hk
  simp only[Ϛ]at hm;obtain⟨v,hv,rfl⟩:=hm;obtain⟨⟨ty,cs,hc⟩,hf⟩:=hin v hv;refine h.disj he hc (λe1=>hf (hno v ty cs e1)) (.inr rfl) hk rfl
 refine⟨h.mod.trans hmod (λk hk=>?_),λe he=>?_,λe he hw k hk=>?_,?_⟩
 ·rcases qy13.1 hk with hk|hk
  case inr=>exact(hgs k hk).1.symm
  simp only[Ϛ]at hk;obtain⟨v,hv,rfl⟩:=hk;obtain⟨⟨ty,cs,hc⟩,-⟩:=hin v hv;rcases h.own _ hc rfl _ rfl with h1|h1
  ·exact .inr h1
  ·exact .inl h1
 ·simp only[Sx.setAll,Ϛ]at he;obtain⟨x,hx,rfl⟩:=he;obtain⟨-,-,h3⟩:=Z60 (J:=J) ms x;rcases h3 with⟨u,ty,cs,rfl,ty',cs',hc,he⟩|⟨he,hno⟩
  ·rw[he];exact hh _ (Z5e hc)
  ·rw[he];exact Ent.stable (h.holds x hx) λk hk=>hmod.block k (Ent.bound (h.holds x hx) hk) (hfree x hx hno k hk)
 ·simp only[Sx.setAll,Ϛ]at he;obtain⟨x,hx,rfl⟩:=he;obtain⟨h1,h2,-⟩:=Z60 (J:=J) ms x;exact h.own x hx (by rw[<- h1];exact hw) k ((h2 k).1 hk)
 ·unfold Zt Sx.setAll;rw[ϰ];refine ϸ.imp_of_mem (λ{x y} hx hy hxy=>?_) h.sep;obtain⟨h1,h2,-⟩:=Z60 (J:=J) ms x;obtain⟨h1',h2',-⟩:=Z60 (J:=J) ms y;intro hw k ha hb;exact hxy (by rw[<- h1,<- h1'];exact hw) k ((h2 k).1 ha) ((h2' k).1 hb)
def Rel.appendNew{hp hp':List Ent}{gs:List Nat}(h0:Rel B J hp w)(h:Rel B J hp' w')(hgs:∀k∈gs,(B.w0.heap.size<=k\/k∈B.fp)/\∀e∈hp',¬e.fp J k)(hfp:∀e∈hp',∃e0∈hp,e.wr=e0.wr/\∀k,e.fp J k->e0.fp J k): ∀(es:List Ent),(∀x∈es,x.holds J w'/\∀k,x.fp J k->w.heap.size<=k\/(x.wr=ϒ/\∃y∈hp,y.wr=ϒ/\y.fp J k)\/k∈gs)->Zt J es->Rel B J (es++hp') w':=by
 intro es;induction es with
 | nil=>intro _ _;exact h
 | cons e es ih =>
  intro hes hap;unfold Zt at hap;rw[Ϥ]at hap;have ih':=ih (λx hx=>hes x (qy10 _ hx)) hap.2;obtain⟨hh,hfpe⟩:=hes e (qy8 ..);refine ih'.cons hh (λhw k hk=>?_) (λe' he' hw k hk hk'=>?_)
  ·rcases hfpe k hk with h1|⟨h1,-⟩|h1
   ·exact .inl (Ϩ h0.mod.size h1)
   ·rw[h1]at hw;cases hw
   exact(hgs k h1).1
  rcases qy13.1 he' with he' | he'
  ·exact hap.1 e' he' hw k hk hk'
  obtain⟨e0,he0,hw0,hf0⟩:=hfp e' he';have hk0:=hf0 k hk';rcases hfpe k hk with h1|⟨h1,y,hy,hyw,hyk⟩|h1
  ·have:=Ent.bound (h0.holds e0 he0) hk0;omega
  ·rcases hw with hw|hw
   ·rw[h1]at hw;cases hw
   refine h0.disj hy he0 (λe=>?_) (.inr (by rw[<- hw0];exact hw)) hyk hk0;rw[hw0,<- e,hyw]at hw;cases hw
  exact(hgs k h1).2 e' he' hk'
def Zip(P:Program)(f:Nat):Bool :=
 match P.funcs[f]? with
 | some fn=>(fn.name != "runtime.NumGoroutine") && fn.body.isSome
 | none=>ϒ
structure EnvOK(P:Program)(E:Env):Prop where
 tab:Zij P E.T
 fs:∀f∈E.fs,Zip P f=ϐ
 mixed:P.follows .mixedOrders=ϐ
 inl:∀p∈E.inl,P.funcs[p.1]?=ϑ p.2
def EnvOK.joins{P:Program}{E:Env}(h:EnvOK P E)(js:List (Nat×Nat×Nat)):EnvOK P { E with joins:=js }:=⟨h.tab,h.fs,h.mixed,h.inl⟩
variable {C:Cx} {st:St} {J:List V} {a:Act} {w:World} {E:Env} {L:List LC}
def Z1d7{n:X}:((impl G n).P J↔((G.ev J).toB=ϐ->(n.ev J).toB=ϐ)):=by
 unfold impl;split
 ·rename_i h;subst h;simp[X.P_iff,X.ev]
 simp only[X.P,X.P_iff,Z91];cases(G.ev J).toB<;>simp
def Z66{t:Tree}:∀{ns:List X},(Zc5 G ns t).goal C J L->((G.ev J).toB=ϐ->Zaf J ns)/\t.goal C J L:=by
 intro ns;induction ns with
 | nil=>intro h;exact⟨λ_ x hx=>by simp at hx,h⟩
 | cons n ns ih =>
  intro h;simp only[Zc5]at h;obtain⟨h1,h2⟩:=h;obtain⟨h3,h4⟩:=ih h2;refine⟨λhG x hx=>?_,h4⟩;rcases Ϧ.1 hx with rfl|hx
  ·exact Z1d7.1 h1 hG
  exact h3 hG x hx
variable{o:Oper}
def Zny{ops:List Oper}(h:Inv C st J a w)(hg:Z94 ops o st=ϑ G):Region.wanted o (yielded ops.toArray a.tmps)=(G.ev J).toB:=by
 unfold Z94 at hg;unfold Region.wanted;split at hg
 ·rename_i hn;simp at hg;subst hg;simp[hn,X.ev]
 rename_i j want hn;simp only[hn];simp only[ϖ,ϔ]at hg;obtain⟨oj,hj,d,hd,hg⟩:=hg;have hrel:=h.fr d;have hy:∀b,a.tmps.getD d undef=.bool b->yielded ops.toArray a.tmps j=ϑ b:=by
  intro b hb;have:a.tmps[d]?=ϑ (.bool b):=by
   rw[Ϙ]at hb;cases ht:a.tmps[d]? with
   | none=>rw[ht]at hb;simp[undef]at hb
   | some v=>rw[ht]at hb;simp at hb;rw[hb]
  simp[yielded,hj,hd,this]
 have hn:a.tmps.getD d undef=undef->yielded ops.toArray a.tmps j=ϓ:=by
  intro hb;simp only[yielded,ϩ,hj,hd,Option.bind_some];rw[Ϙ]at hb;cases ht:a.tmps[d]? with
  | none=>rfl
  | some v=>rw[ht]at hb;simp at hb;rw[hb];rfl
 split at hg
 ·rename_i x hs;simp at hg;subst hg;rw[hs]at hrel;rw[hy _ hrel];cases want<;>simp[Z91]<;>cases(x.ev J).toB<;>simp
 ·rename_i g x hs;simp at hg;subst hg;rw[hs]at hrel;obtain⟨h1,h2⟩:=hrel;rw[Zdb];cases hgv:(g.ev J).toB
  ·rw[hn (h2 hgv)];simp
  rw[hy _ (h1 hgv)];cases want<;>simp[Z91]<;>cases(x.ev J).toB<;>simp
 ·rename_i hs;simp at hg;subst hg;rw[hs]at hrel;rw[hn hrel];simp[X.ev]
 cases hg
def Zvx(h:x.bd n=ϐ):(Zh6 x).bd n=ϐ:=by cases x<;>simp_all [Zh6,X.bd]
def Z17p{y:X}(h:x.bd n=ϐ)(h':y.bd n=ϐ):(Zik x y).bd n=ϐ:=by unfold Zik;split<;>simp_all [X.bd]
def Z17q{ops:List Oper}(h:Inv C st J a w)(hg:Z94 ops o st=ϑ G):G.bd st.n=ϐ:=by
 unfold Z94 at hg;split at hg
 ·simp at hg;subst hg;rfl
 rename_i j want hn;simp only[ϖ,ϔ]at hg;obtain⟨oj,hj,d,hd,hg⟩:=hg;have hb:=St.slot_bd h.bdf d;split at hg
 ·rename_i x hs;simp at hg;subst hg;rw[hs]at hb;have hb:x.bd st.n=ϐ:=by simpa[SV.bd,CV.bd,Sc.bd]using hb
  cases want
  ·exact Zvx hb
  exact hb
 ·rename_i g x hs;simp at hg;subst hg;rw[hs]at hb;have hb:g.bd st.n=ϐ/\x.bd st.n=ϐ:=by simpa[SV.bd,CV.bd,Sc.bd]using hb
  refine Z17p hb.1 ?_;cases want
  ·exact Zvx hb.2
  exact hb.2
 ·simp at hg;subst hg;rfl
 cases hg
def Z11q{c x y:Operand}{s:Sc}(h:Inv C st J a w)(hG:(G.ev J).toB=ϐ)(hp:Zvu st G c x y=ϑ s): ∃b,a.eval c=.bool b/\(if b then a.eval x else a.eval y)=s.ev J:=by
 unfold Zvu at hp;split at hp
 ·rename_i hc;refine⟨ϐ,by simpa[CV.ev,Sc.ev,X.ev]using h.rd_ok hG hc,?_⟩;split at hp
  ·rename_i s' hs;simp at hp;subst hp;exact h.rd_ok hG hs
  cases hp
 ·rename_i hc;refine⟨ϒ,by simpa[CV.ev,Sc.ev,X.ev]using h.rd_ok hG hc,?_⟩;split at hp
  ·rename_i s' hs;simp at hp;subst hp;exact h.rd_ok hG hs
  cases hp
 ·rename_i cx _ _ hc;have hc:=h.rd_ok hG hc;simp only[CV.ev,Sc.ev]at hc;refine⟨_,hc,?_⟩;have hx:∀c',st.rd (Zik G cx) x=ϑ c'->(cx.ev J).toB=ϐ->a.eval x=CV.ev J c':=λc' hr hcx=>h.rd_ok (by rw[Zdb,hG,hcx];rfl) hr;have hy:∀c',st.rd (Zik G (Zh6 cx)) y=ϑ c'->(cx.ev J).toB=ϒ->a.eval y=CV.ev J c':=λc' hr hcx=>h.rd_ok (by rw[Zdb,hG,Z91,hcx];rfl) hr;split at hp
  ·rename_i u v hu hv;simp at hp;subst hp;simp only[Sc.ev,Z10z];cases hb:(cx.ev J).toB
   ·simp[hy _ hv hb,CV.ev,Sc.ev]
   simp[hx _ hu hb,CV.ev,Sc.ev]
  ·rename_i k u k' v hu hv;simp only[Ϣ,Ϡ.injEq]at hp;obtain⟨rfl,rfl⟩:=hp;simp only[Sc.ev,X.ev];cases hb:(cx.ev J).toB
   ·simp[hy _ hv hb,CV.ev,Sc.ev]
   simp[hx _ hu hb,CV.ev,Sc.ev]
  ·rename_i u v hu hv;simp at hp;subst hp;simp only[Sc.ev,X.ev];cases hb:(cx.ev J).toB
   ·simp[hy _ hv hb,CV.ev,Sc.ev]
   simp[hx _ hu hb,CV.ev,Sc.ev]
  cases hp
 cases hp
def Zvy(hE:EnvOK C.P E){ns:List X}{hp:List Ent}(h:Inv C st J a w)(hh:Hold J hp w')(hG:(G.ev J).toB=ϐ)(hv:Zyx E { st with hp:=hp } G o.op=ϑ (ns,c))(hn:Zaf J ns):(execOp a.eval o).run C.P w'=.ok (.value (CV.ev J c)) w':=by
 unfold Zyx at hv;split at hv
 ·rename_i x y z hop;simp only[Ϟ]at hv;obtain⟨s,hs,rfl,rfl⟩:=hv;have hs:=hs;obtain⟨b,hb,hr⟩:=Z11q h hG hs;simp only[CV.ev];rw[<- hr];unfold execOp;simp only[hop,hb];simp[go_sem]
 exact Z11b hE.tab hh (λx c=>h.rd_ok hG) hv hn
def Z17r(hE:EnvOK C.P E){ns:List X}(h:Inv C st J a w)(hG:(G.ev J).toB=ϐ)(hv:Zyx E st G o.op=ϑ (ns,c))(hn:Zaf J ns): (execOp a.eval o).run C.P w=.ok (.value (CV.ev J c)) w:=Zvy hE h h.rel.holds hG hv hn
def ext0(h:Inv C st J a w)(vs:List V)(hv:vs.length=n - st.n)(hn:st.n<=n):Inv C { st with n:=n } (J++vs) a w:=by have:=h.ext vs;rw[hv,Nat.add_sub_cancel' hn]at this;exact this
variable {C:Cx} {st:St} {J:List V} {a:Act} {w:World} {E:Env} {L:List LC}
def Zay{c:Call}{f:Nat}{args:List SV}(h:Inv C st J a w)(hG:(G.ev J).toB=ϐ)(ho:o.op=.call c)(hc:Zdf st G c=ϑ (f,args))(hf:Zip C.P f=ϐ):(execOp a.eval o).run C.P w=.ok (.enter f (args.map (SV.ev J)).toArray) w:=by
 obtain⟨callee,cargs,ctys⟩:=c;obtain⟨cargs⟩:=cargs;unfold Zip at hf;have hen:∀vs,(callFunc f vs).run C.P w=.ok (.enter f vs) w:=by
  intro vs;split at hf
  ·rename_i fn hfn;simp only[ϗ,bne_iff_ne,ne_eq]at hf;obtain⟨h1,h2⟩:=hf;have h5:¬fn.body=ϓ:=by cases hb:fn.body<;>simp_all
   simp[callFunc,go_sem,hfn,h1,h5]
  cases hf
 unfold execOp;simp only[ho];unfold Zdf at hc;split at hc
 ·rename_i f' hcal;subst hcal;simp only[Ϟ,Prod.mk.injEq]at hc;obtain⟨args',hargs,rfl,rfl⟩:=hc;have:=h.rdAll_ok hG hargs;have hm:(cargs.toArray.map a.eval)=(args'.map (SV.ev J)).toArray:=by rw[<- this];simp
  simp only[resolve,hm,Sem.run_bind,Act.eval,Deferred.ofValue];simp[go_sem,invoke,hen]
 ·rename_i t hcal;subst hcal;split at hc
  ·rename_i f' first caps args' hs hargs
   simp only[Ϡ.injEq,Prod.mk.injEq]at hc;obtain⟨rfl,rfl⟩:=hc;have:=h.rdAll_ok hG hargs;have hm:(cargs.toArray.map a.eval)=(args'.map (SV.ev J)).toArray:=by rw[<- this];simp
   have hrel:=h.fr t;rw[hs]at hrel;have hrel:a.eval (.tmp t)=SV.ev J (.fn f' first caps):=hrel;simp only[resolve,hm,hrel,SV.ev,Sem.run_bind,Deferred.ofValue];have e:∀l:List Sc,(l.map λs=>SV.cv (ϒ,[s])).map (SV.ev J)=l.map (Sc.ev J):=by intro l;simp[SV.ev,CV.ev]
   simp only[List.map_append,e];simp[go_sem,invoke,hen]
  cases hc
 cases hc
variable{T:Tab}
def Ziq{own:Nat->Bool}:∀{ss:List Sc} {n:Nat} {tys:List (Option Nat)},n<=(Z95 T own n tys ss).2.1/\∀e∈(Z95 T own n tys ss).2.2,∀v ty cs,e≠.cells v ty cs:=by
 intro ss;induction ss with
 | nil=>intro n tys;exact⟨ϲ _,λe he=>by simp[Z95]at he⟩
 | cons s ss ih =>
  intro n tys;simp only[Z95];split<;>(try split)<;>(try split)<;>(try split)<;>simp only[] <;>
   (refine⟨Ϩ O ih.1,λe he=>?_⟩;rcases qy13.1 he with he|he<;>first|exact ih.2 e he|(simp at he;done)|(simp at he;subst he;intro v ty cs h;cases h)|(rw[qy12]at he;intro v ty cs h;split at h<;>cases h))
variable{t n':Nat}{es:List Ent}
def Zqn{own:Nat->Bool}(h:Zvr T own t n=ϑ (c,n',es)):n<=n'/\∀e∈es,∀v ty cs,e≠.cells v ty cs:=by
 unfold Zvr at h;split at h
 ·simp at h;obtain⟨rfl,rfl,rfl⟩:=h;exact⟨O,λe he=>by simp at he⟩
 split at h
 ·split at h<;>simp at h
  ·obtain⟨rfl,rfl,rfl⟩:=h;exact⟨O,λe he=>by simp at he;subst he;simp⟩
  ·obtain⟨rfl,rfl,rfl⟩:=h;exact⟨O,λe he=>by simp at he;subst he;simp⟩
  obtain⟨rfl,rfl,rfl⟩:=h;exact⟨O,λe he=>by simp at he⟩
 ·cases h
 simp at h;obtain⟨rfl,rfl,rfl⟩:=h;exact Ziq
def Zz1{own:Nat->Bool}:∀{ts:List Nat} {n n':Nat} {cs:List CV} {es:List Ent},Zin T own ts n=ϑ (cs,n',es)->n<=n'/\∀e∈es,∀v ty cs,e≠.cells v ty cs:=by
 intro ts;induction ts with
 | nil=>intro n n' cs es h;simp[Zin]at h;obtain⟨rfl,rfl,rfl⟩:=h;exact⟨ϲ _,λe he=>by simp at he⟩
 | cons t ts ih =>
  intro n n' cs es h;simp only[Zin,ϖ,ϔ,Prod.mk.injEq]at h;obtain⟨⟨c,n1,e1⟩,h1,⟨cs',n2,e2⟩,h2,rfl,rfl,rfl⟩:=h;obtain⟨a1,b1⟩:=Zqn h1;obtain⟨a2,b2⟩:=ih h2;exact⟨by simp only[]at *;omega,λe he=>by rcases qy13.1 he with he|he;exact b1 e he;exact b2 e he⟩
def Zvz{tups:List (Nat×List Nat)}{own:Nat->Bool}{c:SV}(h:Zqm T tups own t n=ϑ (c,n',es)):n<=n'/\∀e∈es,∀v ty cs,e≠.cells v ty cs:=by
 unfold Zqm at h;split at h<;>simp only[ϖ]at h
 ·simp only[ϔ]at h;obtain⟨⟨cs,n1,e1⟩,h1,h⟩:=h;obtain⟨a1,b1⟩:=Zz1 h1;split at h<;>simp at h<;>obtain⟨rfl,rfl,rfl⟩:=h
  ·exact⟨O,λe he=>by rcases qy13.1 he with he|he;exact b1 e he;(simp at he;subst he;simp)⟩
  exact⟨a1,b1⟩
 simp only[ϔ]at h;obtain⟨⟨cs,n1,e1⟩,h1,h⟩:=h;obtain⟨a1,b1⟩:=Zqn h1;split at h<;>simp at h<;>obtain⟨rfl,rfl,rfl⟩:=h
 ·exact⟨O,λe he=>by rcases qy13.1 he with he|he;exact b1 e he;(simp at he;subst he;simp)⟩
 exact⟨a1,b1⟩
def Z17s{R:List Nat}:∀{mods:List Nat} {n n':Nat} {hp ms news:List Ent},Z8d T R n mods hp=ϑ (n',ms,news) -> n<=n'/\∀v∈mods,(∃ty cs,Ent.cells v ty cs∈hp)/\Zz ms v≠ϓ:=by
 intro mods;induction mods with
 | nil=>intro n n' hp ms news h;simp[Z8d]at h;obtain⟨rfl,rfl,rfl⟩:=h;exact⟨ϲ _,λv hv=>by simp at hv⟩
 | cons v vs ih =>
  intro n n' hp ms news h;simp only[Z8d,ϖ,ϔ]at h;obtain⟨⟨ty,cs⟩,hc,⟨n1,es,nw⟩,h1,rfl,rfl,rfl⟩:=h;obtain⟨a1,b1⟩:=ih h1;refine⟨Ϩ Ziq.1 a1,λu hu=>?_⟩;rcases Ϧ.1 hu with rfl|hu
  ·exact⟨⟨ty,cs,Z5e hc⟩,by simp[Zz]⟩
  obtain⟨c1,c2⟩:=b1 u hu;refine⟨c1,?_⟩;simp only[Zz];split
  ·simp
  exact c2
def Z8f:∀{hp:List Ent} {v e:Nat} {ks:List Kd} {r:X},Zch hp v=ϑ (e,ks,r)->Ent.row v e ks r∈hp:=by
 intro hp;induction hp with
 | nil=>intro v e ks r h;simp[Zch]at h
 | cons x l ih =>
  intro v e ks r h;cases x with
  | row u e' ks' r' =>
   simp only[Zch]at h;split at h
   ·rename_i hu;subst hu;simp at h;obtain⟨rfl,rfl,rfl⟩:=h;exact qy8 ..
   exact qy10 _ (ih h)
  | _=>exact qy10 _ (ih h)
def SV.rel_of_ev{x:Value}(h:x=s.ev J)(hv:s.isVal=ϐ):s.rel J x:=by cases s<;>simp[SV.isVal]at hv<;>exact h
def Z67{tups:List (Nat×List Nat)}{own:Nat->Bool}{c:SV}(h:Zqm T tups own t n=ϑ (c,n',es)):(∃x,c=.cv x)\/∃x,c=.tup x:=by unfold Zqm at h;split at h<;>simp only[ϖ,ϔ]at h<;>obtain⟨⟨cs,n1,e1⟩,h1,h⟩:=h<;>split at h<;>simp at h<;>obtain⟨rfl,-,-⟩:=h<;>simp
variable{K:Act->World->Prop}{Q:Exit->Act->World->Prop}
def Z11r(hE:EnvOK C.P E){c:Call}{f:Nat}{args:List SV}{k:St->Tree}(hi:Inv C st J a w)(hGb:G.bd st.n=ϐ)(ho:o.op=.call c)(hc:Zdf st G c=ϑ (f,args))(hk:∀st' J' a' w',st'.d=st.d->J <+: J'->(k st').goal C J' L->Inv C st' J' a' w'->K a' w')(hg:(Z11j E o G st k f args).goal C J L): if(G.ev J).toB=ϐ then o.wp C.P a w K Q else K (a.put o.dst undef) w:=by
 have hput:∀(st:St) (s:SV),(st.put o.dst s).d=st.d:=by intro st s;cases ho':o.dst<;>rfl
 unfold Z11j at hg;split at hg
 ·exact hg.elim
 rename_i hfs;have hf:Zip C.P f=ϐ:=hE.fs f (by simpa using hfs);split at hg
 ·rename_i hsp;unfold Z1bl at hsp;rw[ϗ,beq_iff_eq]at hsp;obtain⟨rfl,-⟩:=hsp;obtain⟨hcall,hg⟩:=hg;simp only[X.ev,V.toB_b,if_true];unfold Oper.wp;rw[Zay hi rfl ho hc hf];refine(hcall w hi.rel).mono ?_;rintro e w1 ⟨rfl,hr⟩;have hb:(Z11h st.hp args).all (Ent.bd st.n)=ϐ:=ϕ.2 λe he=>ϕ.1 hi.bdh e (ϣ.1 he).1;refine hk _ J _ _ (by exact hput _ _) ϙ hg ((hi.heap hb hr).put _ ?_);rfl
 split at hg
 ·exact hg.elim
 rename_i res n1 es hres;obtain⟨hle,hes⟩:=Zvz hres;simp only[]at hg;split at hg
 ·
  obtain⟨vs,hvl,hcall,hg⟩:=hg;have hi1:=ext0 hi vs hvl hle;have hGe:G.ev (J++vs)=G.ev J:=(X.ev_bd (by rw[<- hi.len];exact Z18.app J vs) G hGb).symm;by_cases hG:(G.ev J).toB=ϐ
  ·rw[ϝ hG];unfold Oper.wp;rw[Zay hi hG ho hc hf];refine(hcall ((X.P_iff J G).2 hG) w (hi.rel.forMem _)).mono ?_;rintro e w1 ⟨rfl,hm⟩;refine hk _ _ _ _ (by exact hput _ _) (Ϝ J vs) hg ((hi1.world (hi1.rel.step hm O1 O1)).put _ ?_);rcases Z67 hres with⟨x,rfl⟩|⟨x,rfl⟩
   ·simp only[];split
    ·rfl
    exact⟨λ_=>rfl,λh=>by rw[hGe,hG]at h;cases h⟩
   simp only[];split
   ·rfl
   trivial
  rw[ϛ hG];have hG':(G.ev J).toB=ϒ:=by simpa using hG
  have hGn:¬G=.B ϐ:=by rintro rfl;simp[X.ev]at hG
  refine hk _ _ _ _ (by exact hput _ _) (Ϝ J vs) hg (hi1.put _ ?_);rcases Z67 hres with⟨x,rfl⟩|⟨x,rfl⟩
  ·simp only[ϛ hGn];exact⟨(λh=>by rw[hGe,hG']at h;cases h),λ_=>rfl⟩
  simp only[ϛ hGn];trivial
 split at hg
 ·rename_i hGt;subst hGt;simp only[X.ev,V.toB_b,if_true];split at hg
  ·exact hg.elim
  rename_i n2' ms news' hh;obtain⟨hle2',hin⟩:=Z17s hh;have hdp:=Z11i (Z1d2 E f (es++news')) n2' news';generalize Zvt (Z1d2 E f (es++news')) n2' news'=q at hg hdp;obtain⟨n2,news⟩:=q
  (try simp only[]at hg);(try simp only[]at hdp)
  have hle2:n1<=n2:=Ϩ hle2' hdp;split at hg
  ·rename_i hbd;simp only[ϗ]at hbd;obtain⟨hbd,hgone⟩:=hbd;generalize hgd:Z11e E f st.hp (Ztk (args.flatMap SV.ptrs)) args=gone at hg hbd hgone;simp only[Tree.goal]at hg;unfold Oper.wp;rw[Zay hi rfl ho hc hf];simp only[Oper.upon];refine(hg w hi.rel).mono ?_;rintro e w1 ⟨vs,hvl,rfl,hm,hms,hesh,hap,hg⟩;simp only[];have hi1:=ext0 hi vs hvl O;have hag:Z18 st.n J (J++vs):=by rw[<- hi.len];exact Z18.app J vs
   have hbh:=ϕ.1 hi.bdh;have hgrow:∀u∈gone,∃e ks r,Ent.row u e ks r∈st.hp:=λu hu=>by
    have:=ϕ.1 hgone u hu;cases hr:Zch st.hp u with
    | none=>rw[hr]at this;cases this
    | some p=>obtain⟨e,ks,r⟩:=p;exact⟨e,ks,r,Z8f hr⟩
   have hvb:∀v∈Ztk (args.flatMap SV.ptrs),(J.getD v (.i 0)).toN=((J++vs).getD v (.i 0)).toN:=by intro v hv;obtain⟨⟨ty,cs,hc⟩,-⟩:=hin v hv;have:=hbh _ hc;simp only[Ent.bd,ϗ,ϡ]at this;rw[hag v this.1]
   have hub:∀u∈gone,J.getD u (.i 0)=(J++vs).getD u (.i 0):=by intro u hu;obtain⟨e,ks,r,hm⟩:=hgrow u hu;have:=hbh _ hm;simp only[Ent.bd,ϗ,ϡ]at this;rw[hag u this.1]
   have hm':Mod (((Ztk (args.flatMap SV.ptrs)).map λv=>((J++vs).getD v (.i 0)).toN)++Zq J gone) w w1:=by rw[<- ϫ hvb];exact hm
   have hr1:=hi1.rel.sublist (hp':=Zbg st.hp gone) List.filter_sublist;have hgs:∀k∈Zq J gone,(C.B.w0.heap.size<=k\/k∈C.B.fp)/\∀e∈Zbg st.hp gone,¬e.fp (J++vs) k:=by
    intro k hk;simp only[Zq,List.mem_flatMap,Option.mem_toList]at hk;obtain⟨u,hu,hk⟩:=hk;obtain⟨e,ks,r,hmr⟩:=hgrow u hu;have hfp:(Ent.row u e ks r).fp (J++vs) k:=by
     show((J++vs).getD u (.i 0)).toV.ownBlock=ϑ k
     rw[<- hub u hu];exact hk
    refine⟨hi1.rel.own _ hmr rfl k hfp,λe' he' hk'=>?_⟩;simp only[Zbg,ϣ]at he';refine hi1.rel.disj hmr he'.1 (λh=>?_) (.inl rfl) hfp hk';rw[<- h]at he';simp[Z1bk,hu]at he'
   have hr2:=hr1.setAll hm' hgs (λv hv=>by obtain⟨⟨ty,cs,hc⟩,h2⟩:=hin v hv;exact⟨⟨ty,cs,by simp only[Zbg,ϣ];exact⟨hc,rfl⟩⟩,h2⟩) hms;have hr3:=hi1.rel.appendNew (gs:=Zq J gone) hr2 (λk hk=>⟨(hgs k hk).1,λe he hk'=>by
    simp only[setAll,Ϛ]at he;obtain⟨x,hx,rfl⟩:=he;obtain⟨-,h2,-⟩:=Z60 ms x;exact(hgs k hk).2 x hx ((h2 k).1 hk')⟩) (λe he=>by
    simp only[setAll,Ϛ]at he;obtain⟨x,hx,rfl⟩:=he;obtain⟨h1,h2,-⟩:=Z60 ms x;exact⟨x,(ϣ.1 hx).1,h1,λk hk=>(h2 k).1 hk⟩) (es++news) (λx hx=>by
    obtain⟨h1,h2⟩:=hesh x hx;refine⟨h1,λk hk=>?_⟩;rcases h2 k hk with h3|⟨h3,y,hy,hyw,hyk⟩|h3
    ·exact .inl h3
    ·exact .inr (.inl ⟨h3,y,hy,hyw,(Ent.fp_bd hag y (hbh y hy) k).1 hyk⟩)
    exact .inr (.inr h3)) hap
   have hi2:Inv C { st with n:=n2,hp:=(es++news)++setAll (Zbg st.hp gone) ms } (J++vs) a w1:=⟨hi1.len,hi1.size,hi1.fr,hi1.bdf,hbd,hi1.defers,hr3⟩
   refine hk _ _ _ _ (by exact hput _ _) (Ϝ J vs) hg (hi2.put _ ?_);rcases Z67 hres with⟨x,rfl⟩|⟨x,rfl⟩<;>rfl
  exact hg.elim
 exact hg.elim
def Z11s{i:TI}(hT:TIok C.P t i):(Instr.alloc t ϐ (.tuple #[])).run C.P w=.ok (.pointer (ϑ ⟨w.heap.size,0,ϓ⟩)) (w.alloc (.cells (i.zs.map (Sc.ev J)).toArray t)):=by
 obtain⟨d,inf,z,hd,hinf,-,-,hz,hzc,hzb,-⟩:=hT.ok;have hz0:z.cells=(i.zs.map (Sc.ev J)).toArray:=by apply ϭ;rw[hzc,Z4e (J':=J) (λk hk=>O) _ hzb]
 have e1:(zeroValue t).run C.P w=.ok z w:=by simp[zeroValue,typeInfo,hinf,hz]
 unfold Instr.alloc;rw[Sem.run_bind,e1];simp only[Result.andThen_ok,newVar,newRow,hz0];simp[go_sem]
def Zgp{P:Program}{inf:TypeInfo}{ad:Addr}{arr:Array Value}(hinf:P.info? t=ϑ inf)(hv:v.cells=arr)(hs:arr.size=inf.size): (storeVar t ad v).run P w=(storeCells ad arr.toList).run P w:=by unfold storeVar;rw[hv];simp[sizeOf,typeInfo,hinf,hs]
def Inv.newCells(hi:Inv C st J a w)(hb:cs.all (Sc.bd st.n)=ϐ): Inv C { st with n:=st.n+1,hp:=.cells st.n t cs::st.hp } (J++[.n w.heap.size]) a (w.alloc (.cells (cs.map (Sc.ev J)).toArray t)):=by
 have hi1:=ext0 hi (n:=st.n+1) [.n w.heap.size] O1 O;have hag:Z18 st.n J (J++[.n w.heap.size]):=by rw[<- hi.len];exact Z18.app J _
 have hat:(J++[V.n w.heap.size]).getD st.n (.i 0)=.n w.heap.size:=by rw[<- hi.len];simp
 have hh:(Ent.cells st.n t cs).holds (J++[.n w.heap.size]) (w.alloc (.cells (cs.map (Sc.ev J)).toArray t)):=by
  simp only[Ent.holds,hat,V.toN_n,<- Z4e hag cs hb]
  show(w.heap.push _)[w.heap.size]?=_
  simp
 refine⟨hi1.len,hi1.size,hi1.fr,hi1.bdf,(by simp only[List.all_cons,ϗ];refine⟨?_,hi1.bdh⟩;simp only[Ent.bd,ϗ,ϡ];exact⟨O,Z3a O cs hb⟩),hi1.defers,?_⟩;exact(hi1.rel.alloc _).cons hh (λ_ k hk=>by simp only[Ent.fp,hat,V.toN_n]at hk;subst hk;exact .inl hi.rel.mod.size) (λe he _ k hk hk'=>by simp only[Ent.fp,hat,V.toN_n]at hk;have:=Ent.bound (hi1.rel.holds e he) hk';omega)
def Inv.ptr(hl:J.length=n)(b off:Nat):SV.rel (J++[.n b]) (.cv (ϒ,[.ptr n off])) (.pointer (ϑ ⟨b,off,ϓ⟩)):=by subst hl;simp[SV.rel,SV.ev,CV.ev,Sc.ev]
def Ztn{v off:Nat}{i:TI}{g:Bool}{old:List Sc}(hT:TIok C.P t i)(hh:(Ent.cells v ty old).holds J w)(hlen:cs.length=i.ks.length)(hg:g=ϐ\/cs.length=1)(hle:off+cs.length<=old.length): (Instr.storeAt t (.pointer (ϑ ⟨(J.getD v (.i 0)).toN,off,ϓ⟩)) (CV.ev J (g,cs))).run C.P w = .ok () (w.setRow (J.getD v (.i 0)).toN ((old.take off++cs++old.drop (off+cs.length)).map (Sc.ev J)).toArray):=by
  obtain⟨d,inf,z,hd,hinf,hsz,-⟩:=hT.ok;have hc:=Zhs (J:=J) hg;have hcs:(CV.ev J (g,cs)).cells.size=inf.size:=by rw[<- Array.length_toList,hc,hsz];simpa using hlen
  have h1:=run_storeCells_at (P:=C.P) (J.getD v (.i 0)).toN off ty ((CV.ev J (g,cs)).cells.toList) 0 _ w hh (by rw[hc];simp;omega) (by rw[hc];intro x hx;simp only[Ϛ]at hx;obtain⟨s,-,rfl⟩:=hx;exact Sc.ev_one J s);have e2:=Zgp (w:=w) (ad:=⟨(J.getD v (.i 0)).toN,off,ϓ⟩) hinf rfl hcs;have e3:(Instr.sureAddr (.pointer (ϑ ⟨(J.getD v (.i 0)).toN,off,ϓ⟩))).run C.P w=.ok ⟨(J.getD v (.i 0)).toN,off,ϓ⟩ w:=by simp[Instr.sureAddr,go_sem]
  unfold Instr.storeAt;rw[Sem.run_bind,e3];simp only[Result.andThen_ok];rw[e2,h1,hc];simp[List.map_take,List.map_drop]
def Z1d8{x:Sc}(h:scOf s=ϑ x):s.ev J=x.ev J:=by unfold scOf at h;split at h<;>simp at h;subst h;rfl
def Zw0:∀{l:List SV} {r:List Sc},Zyy l=ϑ r->l.map (SV.ev J)=r.map (Sc.ev J):=by
 intro l;induction l with
 | nil=>intro r h;simp[Zyy]at h;subst h;rfl
 | cons s l ih =>
  intro r h;simp only[Zyy,ϖ,ϔ,Ϡ.injEq]at h;obtain⟨x,hx,y,hy,rfl⟩:=h;simp[Z1d8 (J:=J) hx,ih hy]
def Mod.setRow{fp:List Nat}(w:World)(g:Nat)(cs:Array Value)(h:g∈fp):Mod fp w (w.setRow g cs) :=
 ⟨rfl,rfl,rfl,O1,λk _ hn=>setRow_other w g k cs (λe=>hn (e▸h))⟩
def Zqo{x:Operand}{k:St->Tree}(hi:Inv C st J a w)(hk:∀st' J' a' w',st'.d=st.d->J <+: J'->(k st').goal C J' L->Inv C st' J' a' w'->K a' w')(hg:(Z11k o st x k).goal C J L):o.upon C.P a K Q ((pure (Next.value (a.eval x)):Sem Next).run C.P w):=by
 have hput:∀(st:St) (s:SV),(st.put o.dst s).d=st.d:=by intro st s;cases ho':o.dst<;>rfl
 simp only[Oper.upon];unfold Z11k at hg;split at hg
 ·rename_i t;have hrel:=hi.fr t;split at hg
  ·rename_i l hs;rw[hs]at hrel;exact hk _ _ _ _ (by exact hput _ _) ϙ hg (hi.put _ hrel)
  ·rename_i f a' b' hs;rw[hs]at hrel;exact hk _ _ _ _ (by exact hput _ _) ϙ hg (hi.put _ hrel)
  exact hg.elim
 ·exact hk _ _ _ _ (by exact hput _ _) ϙ hg (hi.put _ rfl)
 exact hg.elim
def Z17t(hE:EnvOK C.P E){k:St->Tree}(hi:Inv C st J a w)(hk:∀st' J' a' w',st'.d=st.d->J <+: J'->(k st').goal C J' L->Inv C st' J' a' w'->K a' w')(hg:(Z1d3 E o st k).goal C J L):o.wp C.P a w K Q:=by
  have hput:∀(st:St) (s:SV),(st.put o.dst s).d=st.d:=by intro st s;cases ho':o.dst<;>rfl
  have hT:(X.ev J (.B ϐ)).toB=ϐ:=rfl;unfold Z1d3 at hg;unfold Oper.wp execOp;split at hg
  .
    rename_i t i hop;simp only[hop];have hrel:=hi.fr t;split at hg
    . rename_i l hs;rw[hs]at hrel;have hrel:a.eval (.tmp t)=.tuple (l.map (CV.ev J)).toArray:=hrel;split at hg
      . rename_i c hc;rw[hrel];simp only[Instr.extract,ϩ,ϯ,hc,ϳ];simp only[go_sem,Sem.run_bind,Sem.run_pure,Result.andThen_ok,Oper.upon];exact hk _ _ _ _ (by exact hput _ _) ϙ hg (hi.put _ rfl)
      exact hg.elim
    exact hg.elim
  .
    rename_i x hop;simp only[hop];exact Zqo hi hk hg
  .
    rename_i x hop;simp only[hop];exact Zqo hi hk hg
  .
    rename_i t hop;simp only[hop];split at hg
    . rename_i i hti;have hTI:=hE.tab.get hti;obtain⟨-,-,-,-,-,-,-,-,-,hzb,-⟩:=hTI.ok;simp only[Sem.run_bind,Z11s (J:=J) hTI,Result.andThen_ok,Sem.run_pure,Oper.upon];have h1:=hi.newCells (t:=t) (Z3a (Nat.zero_le _) _ hzb);exact hk _ _ _ _ (by exact hput _ _) (Ϝ J _) (hg w.heap.size) (h1.put _ (Inv.ptr hi.len _ _))
    exact hg.elim
  .
    rename_i t x hop;simp only[hop];split at hg
    . rename_i g cs hx;split at hg
      . rename_i hcond;obtain⟨h1,h2⟩:=hcond;have hx:=hi.rd_ok hT hx;have hcells:(CV.ev J (g,cs)).cells=(cs.map (Sc.ev J)).toArray:=by
          apply ϭ;rw[Zhs h1]
        have e1:(Instr.box t (a.eval x)).run C.P w=.ok (.pointer (ϑ ⟨w.heap.size,0,ϓ⟩)) (w.alloc (.cells (cs.map (Sc.ev J)).toArray t)):=by simp only[Instr.box,newVar,newRow,hx,hcells];simp[go_sem]
        simp only[Sem.run_bind,e1,Result.andThen_ok,Sem.run_pure,Oper.upon];have h3:=hi.newCells (t:=t) h2;exact hk _ _ _ _ (by exact hput _ _) (Ϝ J _) (hg w.heap.size) (h3.put _ (Inv.ptr hi.len _ _))
      exact hg.elim
    exact hg.elim
  .
    rename_i t ad x hop;simp only[hop];split at hg
    . rename_i v off g cs i had hx hti;split at hg
      . rename_i ty old hc;split at hg
        . rename_i hcond;obtain⟨h1,h2,h3,h4⟩:=hcond;have hx:=hi.rd_ok hT hx;have had:=hi.rd_ok hT had;simp only[CV.ev,Sc.ev]at had;have hmem:=Z5e hc;have hh:=hi.rel.holds _ hmem;have e1:=Ztn (C:=C) (g:=g) (hE.tab.get hti) hh h1 h2 h3;simp only[had,hx,Sem.run_bind,e1,Result.andThen_ok,Sem.run_pure,Oper.upon];have hob:=ϕ.1 hi.bdh _ hmem;simp only[Ent.bd,ϗ]at hob;have hbn:(old.take off++cs++old.drop (off+cs.length)).all (Sc.bd st.n)=ϐ:=by
            rw[ϕ]at *;intro y hy;simp only[qy13]at hy;rcases hy with(hy|hy)|hy
            . exact hob.2 y (List.mem_of_mem_take hy)
            . exact h4 y hy
            exact hob.2 y (List.mem_of_mem_drop hy)
          have hr:=hi.rel.update (cs:=old.take off++cs++old.drop (off+cs.length)) hmem (Mod.setRow w _ _ (qy12.2 rfl)) (by simp only[Ent.holds];exact setRow_heap w _ _ _ _ _ hh);have hi2:=hi.heap (Ztm hi.bdh hbn) hr;exact hk _ _ _ _ (by exact hput _ _) ϙ hg (hi2.put _ rfl)
        exact hg.elim
      exact hg.elim
    exact hg.elim
  .
    rename_i f first caps hop
    simp only[hop];split at hg
    . rename_i l1 l2 h1 h2;simp only[ϔ]at h1 h2;obtain⟨r1,h1,h1'⟩:=h1;obtain⟨r2,h2,h2'⟩:=h2;have e1:=hi.rdAll_ok hT h1;have e2:=hi.rdAll_ok hT h2;rw[Zw0 h1']at e1;rw[Zw0 h2']at e2;have m1:first.map a.eval=(l1.map (Sc.ev J)).toArray:=by apply ϭ;simpa using e1
      have m2:caps.map a.eval=(l2.map (Sc.ev J)).toArray:=by apply ϭ;simpa using e2
      simp only[Instr.makeFunc,m1,m2,Sem.run_bind,Sem.run_pure,Result.andThen_ok,Oper.upon];exact hk _ _ _ _ (by exact hput _ _) ϙ hg (hi.put _ rfl)
    exact hg.elim
  exact hg.elim
