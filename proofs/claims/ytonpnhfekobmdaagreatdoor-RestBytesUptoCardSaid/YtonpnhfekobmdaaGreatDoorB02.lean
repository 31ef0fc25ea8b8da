/- By an AI agent. -/
import Derived.Test.YtonpnhfekobmdaaGreatDoorB01
set_option linter.all false
set_option maxHeartbeats 20000000
namespace Go.Sx
open Go
structure St where
 n:Nat
 d:Nat
 fr:List SV
 hp:List Ent
 deriving DecidableEq,Repr,Inhabited
inductive Tree
 | ret (v:SV) (hp:List Ent)
 | ite (c:X) (t e:Tree)
 | need (c:X) (t:Tree)
 | bindN (t:Tree)
 | bindV (t:Tree)
 | bindO (t:Tree)
 | bindF (v:Nat) (t:Tree)
 | letV (v:X) (t:Tree)
 | callP (g:X) (f:Nat) (args:List SV) (hp:List Ent) (res:SV) (m:Nat) (t:Tree)
 | callM (f:Nat) (args:List SV) (hp:List Ent) (mods gone:List Nat) (ms es:List Ent) (res:SV) (m:Nat) (t:Tree)
 | callR (f:Nat) (args:List SV) (hp hp':List Ent) (t:Tree)
 | both (t e:Tree)
 | openR (v:Nat) (ks:List Kd) (hp:List Ent) (t:Tree)
 | pack (hp:List Ent) (t:Tree)
 | loop (inits:List X) (t:Tree)
 | back (d:Nat) (xs:List X)
 | join (m:Nat) (t e:Tree)
 | jump (d:Nat) (xs:List X)
 | leaf (st:St)
 | stuck (why:String)
 deriving Repr,Inhabited
structure LC where
 I:List V->Prop
 μ:List V->Nat
 vs:List V
structure Cx where
 P:Program
 B:Base
 R:Ending->World->Prop
def SV.isVal:SV->Bool | .cv _ | .tup _ | .fn ..=>true|_=>false
def Z6s(J:List V)(gone:List Nat):List Nat:=gone.flatMap λv=>(J.getD v (.i 0)).toV.ownBlock.toList
def Zgu(J:List V)(mods gone:List Nat):List Nat:=(mods.map λv=>(J.getD v (.i 0)).toN)++Z6s J gone
def Tree.goal(C:Cx):Tree->List V->List LC->Prop
  | .ret v hp,J,_=>∀w,Rel C.B J hp w->C.R (.returned (v.ev J)) w
  | .ite c t e,J,L=>(c.P J->t.goal C J L)/\(¬c.P J->e.goal C J L)
  | .need c t,J,L=>c.P J/\t.goal C J L
  | .both t e,J,L=>t.goal C J L/\e.goal C J L
  | .bindN t,J,L=>∀b:Nat,t.goal C (J++[.n b]) L
  | .bindV t,J,L=>∀v:Value,t.goal C (J++[.v v]) L
  | .bindO t,J,L=>∀v:Value,(∀k,Z3 v k->C.B.w0.heap.size<=k\/k∈C.B.fp)->t.goal C (J++[.v v]) L
  | .bindF u t,J,L=>∀v:Value,(∀k,Z3 v k->Z3 (J.getD u (.i 0)).toV k)->t.goal C (J++[.v v]) L
  | .letV x t,J,L=>t.goal C (J++[x.ev J]) L
  | .callP g f args hp res m t,J,L=>∃vs:List V,vs.length=m /\
      (g.P J->∀w,Rel C.B J hp w->Calls C.P f (args.map (SV.ev J)).toArray w λe w1=>e=.returned (res.ev (J++vs))/\Mod [] w w1)/\t.goal C (J++vs) L
  | .callM f args hp mods gone ms es res m t,J,L=>∀w,Rel C.B J hp w->Calls C.P f (args.map (SV.ev J)).toArray w λe w1 =>
      ∃vs:List V,vs.length=m/\e=.returned (res.ev (J++vs))/\Mod (Zgu J mods gone) w w1/\(∀x∈ms,x.holds (J++vs) w1) /\
        (∀x∈es,x.holds (J++vs) w1/\∀k,x.fp (J++vs) k->w.heap.size<=k\/(x.wr=false/\∃y∈hp,y.wr=false/\y.fp J k)\/k∈Z6s J gone)/\Zv (J++vs) es/\t.goal C (J++vs) L
  | .callR f args hp hp' t,J,L=>(∀w,Rel C.B J hp w->Calls C.P f (args.map (SV.ev J)).toArray w λe w1=>e=.returned (.tuple #[])/\Rel C.B J hp' w1)/\t.goal C J L
  | .openR v ks hp t,J,L=>∃rows:List (List Value),(∀w,Rel C.B J hp w->reads w (J.getD v (.i 0)).toV ks rows /\
      (rows.flatten≠[]->∀k,Z3 (J.getD v (.i 0)).toV k->∀e∈hp,e.wr=true->¬e.fp J k))/\t.goal C (J++[.r rows]) L
  | .pack hp t,J,L=>∃A:Asrt,(∀w,Rel C.B J hp w->A.holds w)/\(∀k,A.fp k->∃e∈hp,e.wr=false/\e.fp J k)/\t.goal C (J++[.a A]) L
  | .loop inits t,J,L=>∃(I:List V->Prop) (μ:List V->Nat),I (inits.map (X.ev J))/\∀vs,vs.length=inits.length->I vs->t.goal C (J++vs) (L++[⟨I,μ,vs⟩])
  | .back d xs,J,L=>match L[d]? with
    | some c=>c.I (xs.map (X.ev J))/\c.μ (xs.map (X.ev J))<c.μ c.vs
    | none=>False
  | .join m t e,J,L=>∃I:List V->Prop,t.goal C J (L++[⟨I,λ_=>0,[]⟩])/\∀vs,vs.length=m->I vs->e.goal C (J++vs) L
  | .jump d xs,J,L=>match L[d]? with
    | some c=>c.I (xs.map (X.ev J))
    | none=>False
  | .leaf _,_,_=>False
  | .stuck _,_,_=>False
instance:Inhabited LC:=⟨⟨λ_=>True,λ_=>0,[]⟩⟩
def Sc.ofV:Value->Option Sc
 | .int k n=>some (.int k (.I n))
 | .bool b=>some (.bool (.B b))
 | .string s=>some (.str (.S s.data.toList))
 | .pointer none=>some .nilp
 | .slice none 0 0=>some .nils
 | .map none=>some .nilm
 | _=>none
theorem Sc.ofV_ok{J:List V}{v:Value}{s:Sc}(h:Sc.ofV v=some s):s.ev J=v:=by unfold Sc.ofV at h;split at h<;>simp only[Option.some.injEq,reduceCtorEq]at h<;>subst h<;>simp[Sc.ev,X.ev]
def St.slot(st:St)(t:Nat):SV:=st.fr.getD t .dead
def St.rd(st:St)(G:X):Operand->Option CV
 | .tmp t=>match st.slot t with
  | .cv c=>some c
  | .gd g c=>if G.bears g then some c else none
  | _=>none
 | .const v=>(Sc.ofV v).map λs=>(false,[s])
 | _=>none
def St.rdA(st:St)(G:X)(x:Operand):Option SV :=
 match st.rd G x with
 | some c=>some (.cv c)
 | none=>match x with
  | .tmp t=>match st.slot t with | .fn f a b=>some (.fn f a b)|_=>none
  | .func f=>some (.fn f [] [])
  | _=>none
def St.put(st:St)(d:Option Tmp)(s:SV):St :=
 match d with
 | some d=>{ st with fr:=st.fr.set d (if s.bd st.n then s else .dead) }
 | none=>st
def impl(G n:X):X:=if G=.B true then n else .or (Z8v G) n
def Z63(G:X):List X->Tree->Tree
 | [],t=>t
 | n::l,t=>.need (impl G n) (Z63 G l t)
def Z4h(ops:List Oper)(o:Oper)(st:St):Option X :=
 match o.guard with
 | none=>some (.B true)
 | some (j,want)=>do
  let oj <- ops[j]?
  let d <- oj.dst
  match st.slot d with
  | .cv (false,[.bool x])=>some (if want then x else Z8v x)
  | .gd g (false,[.bool x])=>some (Z9p g (if want then x else Z8v x))
  | .tup []=>some (.B false)
  | _=>none
structure Env where
 T:Tab
 tups:List (Nat×List Nat)
 fs:List Nat
 own:List Nat
 take:List Nat
 lose:List Nat
 inl:List (Nat×Func)
 joins:List (Nat×Nat×Nat):=[]
 deep:List Nat:=[]
 ro:List Nat:=[]
def Env.ownF(E:Env)(f:Nat):Nat->Bool:=λe=>(E.own.contains f || E.joins.any λj=>j.1 == 20 && j.2.1 == f) && !(E.deep.contains f && E.ro.contains e)
def Zix(T:Tab):Nat->Nat->List (Option Nat)
 | 0,_=>[]
 | f+1,t=>match T.get t with
  | some i=>match i.tag with
   | .slice e=>[some e]
   | .strct fl=>fl.flatMap λp=>let l:=Zix T f p.2.1;if l.length=p.2.2.1 then l else List.replicate p.2.2.1 none
   | _=>List.replicate i.ks.length none
  | none=>[]
def Z69:List Ent->Nat->Option (Nat×List Kd×X)
 | [],_=>none
 | .row u e ks r::l,v=>if u=v then some (e,ks,r)else Z69 l v
 | _::l,v=>Z69 l v
def Z4i(T:Tab)(own:Nat->Bool):Nat->List (Option Nat)->List Sc->List Sc×Nat×List Ent
 | n,_,[]=>([],n,[])
 | n,tys,s::ss =>
  let ty:=match tys with|t::_=>t | []=>none
  let (c,n1,e):=match s with
   | .int k _=>(Sc.int k (.var n),n+1,[])
   | .bool _=>(.bool (.var n),n+1,[])
   | .str _=>(.str (.var n),n+1,[])
   | _=>match ty with
    | some e=>match T.get e with
     | some ei=>(.val (.var n),n+2,[if own e=true then Ent.row n e ei.ks (.var (n+1))else Ent.rd n ei.ks (.var (n+1))])
     | none=>(.val (.var n),n+1,[])
    | none=>(.val (.var n),n+1,[])
  let (cs,n2,es):=Z4i T own n1 tys.tail ss
  (c::cs,n2,e++es)
def Zgv(T:Tab)(own:Nat->Bool)(t n:Nat):Option (CV×Nat×List Ent) :=
 match T.get t with
 | none=>some ((false,[.val (.var n)]),n+1,[])
 | some i=>match i.tag with
 | .slice e=>match own e,T.get e with
  | true,some ei=>some ((false,[.val (.var n)]),n+2,[.row n e ei.ks (.var (n+1))])
  | true,none=>none
  | false,some ei=>some ((false,[.val (.var n)]),n+2,[.rd n ei.ks (.var (n+1))])
  | false,none=>some ((false,[.val (.var n)]),n+1,[])
 | .tuple _=>none
 | _=>let r:=Z4i T own n (Zix T 6 t) i.zs;some ((i.agg,r.1),r.2.1,r.2.2)
def Z9s(T:Tab)(own:Nat->Bool):List Nat->Nat->Option (List CV×Nat×List Ent)
 | [],n=>some ([],n,[])
 | t::ts,n=>do
  let (c,n1,e1) <- Zgv T own t n
  let (cs,n2,e2) <- Z9s T own ts n1
  some (c::cs,n2,e1++e2)
def Zgw(c:CV):Bool:=c.2.any fun | .val _=>true|_=>false
def Zds(T:Tab)(tups:List (Nat×List Nat))(own:Nat->Bool)(t n:Nat):Option (SV×Nat×List Ent) :=
 match tups.find? λp=>p.1 == t with
 | some (_,l)=>do
  let (cs,n1,es) <- Z9s T own l n
  if cs.any Zgw && es.isEmpty then some (.tup cs,n1+1,es++[.st n1])else some (.tup cs,n1,es)
 | none=>do
  let (c,n1,es) <- Zgv T own t n
  if Zgw c && es.isEmpty then some (.cv c,n1+1,es++[.st n1])else some (.cv c,n1,es)
def Zko(cs:List Sc):List Nat:=cs.filterMap fun | .ptr v _=>some v|_=>none
def SV.ptrs:SV->List Nat
 | .cv c=>Zko c.2
 | .fn _ a b=>Zko a++Zko b
 | _=>[]
def Z42(T:Tab)(R:List Nat)(n:Nat):List Nat->List Ent->Option (Nat×List Ent×List Ent)
 | [],_=>some (n,[],[])
 | v::vs,hp=>do
  let (ty,cs) <- Zm hp v
  let r:=Z4i T (λe=>!(R.contains e || R.contains (1000000+ty*1000+e))) n (Zix T 6 ty) cs
  let (n',es,news) <- Z42 T R r.2.1 vs hp
  some (n',.cells v ty r.1::es,r.2.2++news)
def Zqg(hp:List Ent)(cs:List Sc):List Nat:=cs.filterMap fun | .val (.var u)=>(match Z69 hp u with|some _=>some u|none=>none)|_=>none
def Zkp(hp:List Ent)(v:Nat):List Nat:=match Zm hp v with|some p=>Zqg hp p.2|none=>[]
def SV.cells:SV->List Sc
 | .cv c=>c.2
 | _=>[]
def Zqh(gone:List Nat):Ent->Bool | .row u _ _ _=>gone.contains u|_=>false
def Z5m(hp:List Ent)(gone:List Nat):List Ent:=hp.filter λe=>!(Zqh gone e)
def Z5n(hp:List Ent)(v ty:Nat)(cs:List Sc):List Ent :=
 hp.map fun | .cells u ty' cs'=>if u=v then .cells v ty cs else .cells u ty' cs' | e=>e
def Z8l(ms:List Ent):Ent->Ent
 | .cells u ty cs=>(match Zm ms u with|some (ty',cs')=>.cells u ty' cs' | none=>.cells u ty cs)
 | e=>e
def setAll(hp ms:List Ent):List Ent:=hp.map (Z8l ms)
def Zfl(l:List Nat):List Nat:=l.foldl (λacc x=>if acc.contains x then acc else acc++[x]) []
def Z9t(st:St)(G:X):List Operand->Option (List SV)
 | []=>some []
 | x::xs=>do let s <- st.rdA G x;let r <- Z9t st G xs;some (s::r)
def Zo9:Sc->Bool | .val _ | .ptr .. | .eptr ..=>true|_=>false
def SV.mem:SV->Bool
 | .cv c=>c.2.any Zo9
 | .tup l=>l.any λc=>c.2.any Zo9
 | .fn _ a b=>a.any Zo9 || b.any Zo9
 | _=>false
def forMem(b:Bool)(hp:List Ent):List Ent:=if b=true then hp else[]
def Zkq(E:Env)(f:Nat)(hp:List Ent)(mods:List Nat)(args:List SV):List Nat:=Zfl (mods.flatMap (Zkp hp)++(if E.take.contains f then args.flatMap (λs=>Zqg hp s.cells)else[]))
def Zrc:Ent->Bool
 | .row _ _ ks _ | .rd _ ks _=>ks.any (· == .oth)
 | _=>false
def Zgx(b:Bool)(n:Nat)(es:List Ent):Nat×List Ent:=if b=true then(n+1,es++[.st n])else(n,es)
def Zoa:List Sc->List Nat
 | []=>[]
 | .val (.var u)::l=>u::Zoa l
 | _::l=>Zoa l
def Zdt:X->List Nat
 | .consV (.var u) b=>u::Zdt b
 | .consV _ b=>Zdt b
 | .consI _ _ b=>Zdt b
 | .consB _ b=>Zdt b
 | .consS _ b=>Zdt b
 | .snocR a b=>Zdt a++Zdt b
 | _=>[]
def Zkr(hp:List Ent)(args:List SV):List Nat :=
 let vs:=args.flatMap λa=>Zoa a.cells
 vs++hp.flatMap λe=>match e with | .row v _ _ r=>if vs.contains v=true then Zdt r else[] | _=>[]
def stOf(hp:List Ent)(u:Nat):Nat:=hp.foldl (λm e=>match e with | .st f=>if u<f/\(m=0\/f<m)then f else m|_=>m) 0
def Zks(hp:List Ent)(args:List SV):List Ent :=
 let vs:=Zkr hp args
 let ss:=(args.flatMap λa=>Zoa a.cells).map (stOf hp)
 hp.filter λe=>match e with | .rd u _ _=>!(vs.contains u) | .row u _ _ _=>!(vs.contains u) | .st f=>!(ss.contains f)|_=>true
def Zkt(E:Env)(f:Nat)(G:X):Bool:=G == .B true && E.joins.any λj=>j.1 == 18 && j.2.1 == f
def Zrd(E:Env)(f:Nat)(es:List Ent):Bool:=(E.deep.contains f && es.any Zrc) || E.joins.any λj=>j.1 == 19 && j.2.1 == f
theorem Zku(b:Bool)(n:Nat)(es:List Ent):n<=(Zgx b n es).1:=by unfold Zgx;split<;>simp
def Zkv(E:Env)(o:Oper)(G:X)(st:St)(k:St->Tree)(f:Nat)(args:List SV):Tree :=
 if !(E.fs.contains f)then .stuck "call no such function" else
 if Zkt E f G=true then .callR f args st.hp (Zks st.hp args) (k (St.put { st with hp:=Zks st.hp args } o.dst (.tup [])))else
 match Zds E.T E.tups (E.ownF f) o.type st.n with
 | none=>.stuck "call the results type"
 | some (res,n1,es) =>
  let mods:=Zfl (args.flatMap SV.ptrs)
  let gone:=Zkq E f st.hp mods args
  if es.isEmpty && mods.isEmpty && gone.isEmpty then
   let st':={ st with n:=n1 }
   .callP G f args (forMem (args.any SV.mem) st.hp) res (n1 - st.n) (k (st'.put o.dst (match res with | .cv c=>if G=.B true then .cv c else .gd G c|r=>if G=.B true then r else .dead)))
  else if G=.B true then
   match Z42 (if E.lose.contains f then[]else E.T) E.ro n1 mods st.hp with
   | none=>.stuck "call a pointer to no cells"
   | some (n2',ms,news') =>
    let q:=Zgx (Zrd E f (es++news')) n2' news'
    let st':={ st with n:=q.1,hp:=(es++q.2)++setAll (Z5m st.hp gone) ms }
    if st'.hp.all (Ent.bd q.1) && gone.all (λu=>(Z69 st.hp u).isSome)then .callM f args st.hp mods gone ms (es++q.2) res (q.1 - st.n) (k (st'.put o.dst res))else .stuck "call bounds"
  else .stuck "call guarded"
def Zgy(st:St)(G:X)(c a b:Operand):Option Sc :=
 match st.rd G c with
 | some (false,[.bool (.B true)])=>match st.rd G a with|some (false,[s])=>some s|_=>none
 | some (false,[.bool (.B false)])=>match st.rd G b with|some (false,[s])=>some s|_=>none
 | some (false,[.bool cx])=>match st.rd (Z9p G cx) a,st.rd (Z9p G (Z8v cx)) b with
  | some (false,[.bool x]),some (false,[.bool y])=>some (.bool (Zka cx x y))
  | some (false,[.int k x]),some (false,[.int k' y])=>if k=k' then some (.int k (.ite cx x y))else none
  | some (false,[.str x]),some (false,[.str y])=>some (.str (.ite cx x y))
  | _,_=>none
 | _=>none
def Ziy(E:Env)(st:St)(G:X)(op:Op):Option (List X×CV) :=
 match op with
 | .pick c a b=>(Zgy st G c a b).map λs=>([],(false,[s]))
 | op=>Zkg E.T st.hp (st.rd G) op
def scOf:SV->Option Sc | .cv (false,[s])=>some s|_=>none
def Ziz:List SV->Option (List Sc)
 | []=>some []
 | s::l=>do let a <- scOf s;let b <- Ziz l;some (a::b)
def Z6t(st:St)(G:X)(c:Call):Option (Nat×List SV) :=
 match c.callee with
 | .value (.func f)=>(Z9t st G c.args.toList).map λargs=>(f,args)
 | .value (.tmp t)=>match st.slot t,Z9t st G c.args.toList with
  | .fn f first caps,some args=>some (f,(first.map λs=>.cv (false,[s]))++args++(caps.map λs=>.cv (false,[s])))
  | _,_=>none
 | _=>none
def Zkw(o:Oper)(st:St)(x:Operand)(k:St->Tree):Tree :=
 match x with
 | .tmp t=>match st.slot t with
  | .tup l=>k (st.put o.dst (.tup l))
  | .fn f a b=>k (st.put o.dst (.fn f a b))
  | _=>.stuck "move"
 | .func f=>k (st.put o.dst (.fn f [] []))
 | _=>.stuck "move"
def Zre(E:Env)(o:Oper)(st:St)(k:St->Tree):Tree :=
 match o.op with
 | .extract (.tmp t) i=>match st.slot t with
  | .tup l=>match l[i]? with
   | some c=>k (st.put o.dst (.cv c))
   | none=>.stuck "extract"
  | _=>.stuck "extract"
 | .move x | .assign x=>Zkw o st x k
 | .alloc t=>match E.T.get t with
  | some i=>.bindN (k (St.put { st with n:=st.n+1,hp:=.cells st.n t i.zs::st.hp } o.dst (.cv (false,[.ptr st.n 0]))))
  | none=>.stuck "alloc"
 | .box t x=>match st.rd (.B true) x with
  | some (g,cs)=>if(g=true\/cs.length=1)/\cs.all (Sc.bd st.n)=true then .bindN (k (St.put { st with n:=st.n+1,hp:=.cells st.n t cs::st.hp } o.dst (.cv (false,[.ptr st.n 0]))))else .stuck "box"
  | none=>.stuck "box"
 | .store t a x=>match st.rd (.B true) a,st.rd (.B true) x,E.T.get t with
  | some (false,[.ptr v off]),some (g,cs),some i=>match Zm st.hp v with
   | some (ty,old) =>
    if cs.length=i.ks.length/\(g=true\/cs.length=1)/\off+cs.length<=old.length/\cs.all (Sc.bd st.n)=true then
     k (St.put { st with hp:=Z5n st.hp v ty (old.take off++cs++old.drop (off+cs.length)) } o.dst (.tup []))
    else .stuck "store size"
   | none=>.stuck "store where"
  | _,_,_=>.stuck "store"
 | .makeFunc (.func f) first caps=>match (Z9t st (.B true) first.toList).bind Ziz,(Z9t st (.B true) caps.toList).bind Ziz with
  | some a,some b=>k (st.put o.dst (.fn f a b))
  | _,_=>.stuck "makeFunc"
 | _=>.stuck "an operation that is not served"
def rowX:List Sc->Option X
 | []=>some .nilL
 | .int k x::l=>(rowX l).map (.consI k x ·)
 | .bool x::l=>(rowX l).map (.consB x ·)
 | .str x::l=>(rowX l).map (.consS x ·)
 | .val x::l=>(rowX l).map (.consV x ·)
 | .nils::l=>(rowX l).map (.consV .nilS ·)
 | _::_=>none
def Zkx:Kd->Sc->Bool
 | .int k,.int k' _=>k == k'
 | .bool,.bool _=>true
 | .str,.str _=>true
 | .sl _,.val _ | .oth,.val _ | .sl _,.nils | .oth,.nils=>true
 | _,_=>false
def Z3l:List Kd->List Sc->Bool
 | [],[]=>true
 | k::ks,s::ss=>Zkx k s && Z3l ks ss
 | _,_=>false
def Zky(ks:List Kd):Nat->List Sc->Option X
 | 0,_=>some .nilR
 | n+1,cs=>do
  let r <- Zky ks n (cs.take (n*ks.length))
  let l:=(cs.drop (n*ks.length)).take ks.length
  let x <- rowX l
  if Z3l ks l=true then some (.snocR r x)else none
def reps(zs:List Sc):Nat->List Sc
 | 0=>[]
 | n+1=>reps zs n++zs
def Zfm(r y:X):X:=match y with | .snocR .nilR x=>.snocR r x|y=>.catR r y
def Z52(hp:List Ent)(v:Nat):List Ent:=hp.map fun | .row u e ks r=>if u=v then .rd u ks r else .row u e ks r|e=>e
def Z4j(hp:List Ent)(v:Nat):List Ent:=hp.filter fun | .row u _ _ _=>!(u == v)|_=>true
def Z6a(n:Nat):SV:=.cv (false,[.val (.var n)])
def Z8m{α:Type}(c:Nat)(cs l:List α):List α:=l.take c++cs++l.drop (c+cs.length)
def Z7p(v:Nat)(r:X):Ent->Ent
 | .row u e ks r'=>if u=v then .row u e ks r else .row u e ks r'
 | e=>e
def setRow(hp:List Ent)(v:Nat)(r:X):List Ent:=hp.map (Z7p v r)
def Zrf(E:Env)(o:Oper)(st:St)(k:St->Tree):Option Tree :=
  match o.op with
  | .move (.const (.slice none 0 0)) | .assign (.const (.slice none 0 0))=>match E.T.tag o.type with
    | some (.slice e)=>match E.T.get e with
      | some ei=>some (.letV .nilS (k (St.put { st with n:=st.n+1,hp:=.row st.n e ei.ks .nilR::st.hp } o.dst (Z6a st.n))))
      | none=>none
    | _=>none
  | .buildSlice t len parts=>match E.T.tag t with
    | some (.slice e)=>match E.T.get e,Z7o (st.rd (.B true)) parts.toList with
      | some ei,some ps=>match Z2v ((List.range len).map λi=>(i*ei.ks.length,e,ei.ks.length,ei.agg)) (reps ei.zs len) ps with
        | some cs=>match Zky ei.ks len cs with
          | some r=>if r.bd st.n=true/\len*ei.ks.length<=16777216/\0<ei.ks.length/\cs.length=len*ei.ks.length then
              some (.bindO (k (St.put { st with n:=st.n+1,hp:=.row st.n e ei.ks r::st.hp } o.dst (Z6a st.n))))else none
          | none=>none
        | none=>none
      | _,_=>none
    | _=>none
  | .convert src dst x=>match E.T.tag src,E.T.tag dst,st.rd (.B true) x with
    | some .str,some (.slice e),some (false,[.str a])=>match E.T.tag e with
      | some (.int .u8)=>if a.bd st.n=true then some (.bindV (k (St.put { st with n:=st.n+1,hp:=.rd st.n [.int .u8] (.rOf a)::st.hp } o.dst (Z6a st.n))))else none
      | _=>none
    | some (.slice e),some .str,some (false,[.val (.var v)])=>match E.T.tag e,Zq st.hp v with
      | some (.int .u8),some ([.int .u8],r)=>some (k (st.put o.dst (.cv (false,[.str (.ofR r)]))))
      | _,_=>none
    | _,_,_=>none
  | .slice t x lo hi none=>match E.T.tag t,st.rd (.B true) x with
    | some (.slice e),some (false,[.val (.var v)])=>match E.T.get e,Zq st.hp v with
      | some ei,some (ks,r)=>match Zcd (st.rd (.B true)) (.I 0) lo,Zcd (st.rd (.B true)) (.rlen r) hi with
        | some l,some h=>if ks.length=ei.ks.length/\l.bd st.n=true/\h.bd st.n=true/\r.bd st.n=true then
            some (Z63 (.B true) (Z1o 0 l++(Z6q l h++Z6q h (.rlen r)))
              (.bindF v (k (St.put { st with n:=st.n+1,hp:=.rd st.n ks (.dropR (.takeR r h) l)::Z52 st.hp v } o.dst (Z6a st.n)))))else none
        | _,_=>none
      | _,_=>none
    | _,_=>none
  | .call c=>match c.callee,c.args.toList,c.argTypes.toList with
    | .builtin .append,[x,y],[t,t']=>match E.T.tag t,st.rd (.B true) x,st.rd (.B true) y with
      | some (.slice e),some (false,[.val (.var v)]),some (false,[.val (.var u)])=>match E.T.get e,Z69 st.hp v,Zq st.hp u with
        | some ei,some (e',ks,r),some (ks',ry) =>
          if t=t'/\e'=e/\ks=ei.ks/\ks'=ei.ks/\0<ei.ks.length/\0<ei.bytes/\r.bd st.n=true/\ry.bd st.n=true then
            some (.need (.le (.add (.rlen r) (.rlen ry)) (.I (140737488355328 / (ei.bytes:Int))))
              (.bindO (k (St.put { st with n:=st.n+1,hp:=.row st.n e ei.ks (Zfm r ry)::Z4j st.hp v } o.dst (Z6a st.n)))))else none
        | _,_,_=>none
      | _,_,_=>none
    | _,_,_=>none
  | .store t a x=>match st.rd (.B true) a,st.rd (.B true) x,E.T.get t with
    | some (false,[.eptr v esz i c]),some (g,cs),some ti=>match Z69 st.hp v with
      | some (e,ks,r)=>match rowX (Z8m c cs (Z18 r i 0 ks))with
        | some rx=>if ks.length=esz/\c+cs.length<=esz/\ti.ks.length=cs.length/\0<cs.length/\(g=true\/cs.length=1)/\0<esz/\Z3l ks (Z8m c cs (Z18 r i 0 ks))=true/\r.bd st.n=true/\i.bd st.n=true/\rx.bd st.n=true then
            some (Z63 (.B true) (Z1o 0 i++[.lt i (.rlen r)])
              (k (St.put { st with hp:=setRow st.hp v (.setR r i rx) } o.dst (.tup []))))else none
        | none=>none
      | none=>none
    | _,_,_=>none
  | _=>none
def Zrg(ops:List Oper):Option Tmp->Bool
 | none=>false
 | some d=>ops.any λo=>match o.op with
  | .call c=>match c.callee,c.args.toList with
   | .builtin .clear,[.tmp t]=>t == d
   | _,_=>false
  | _=>false
def Zob(ops:List Oper)(t:Nat):Nat:=(ops.filter λo=>match o.op with | .slice t' _ _ _ _=>t' == t|_=>false).length
def Zkz(E:Env)(ops:List Oper)(o:Oper)(st:St)(k:St->Tree):Option Tree :=
 match o.op with
 | .slice t x lo none none=>match E.T.tag t,st.rd (.B true) x with
  | some (.slice e),some (false,[.val (.var v)])=>match E.T.get e,Z69 st.hp v,Zcd (st.rd (.B true)) (.I 0) lo with
   | some ei,some (e',ks,r),some l=>if Zrg ops o.dst=true/\e'=e/\ks=ei.ks/\v<st.n/\l.bd st.n=true then
     some (Z63 (.B true) (Z1o 0 l++Z6q l (.rlen r)) (k (st.put o.dst (.cv (false,[.val (.subS ks.length (.var v) l)])))))else none
   | _,_,_=>none
  | _,_=>none
 | .slice t x none (some hi) none=>match E.T.tag t,st.rd (.B true) x with
  | some (.slice e),some (false,[.val (.var v)])=>match E.T.get e,Z69 st.hp v,Zcd (st.rd (.B true)) (.I 0) (some hi)with
   | some ei,some (e',ks,r),some h=>if e'=e/\ks=ei.ks/\h.bd st.n=true/\r.bd st.n=true/\Zob ops t<=1 then
     some (Z63 (.B true) (Z1o 0 h++Z6q h (.rlen r)) (.bindO (k (St.put { st with n:=st.n+1,hp:=.row st.n e ks (.takeR r h)::Z4j st.hp v } o.dst (Z6a st.n)))))else none
   | _,_,_=>none
  | _,_=>none
 | .call c=>match c.callee,c.args.toList,c.argTypes.toList with
  | .builtin .clear,[y],[t]=>match E.T.tag t,st.rd (.B true) y with
   | some (.slice e),some (false,[.val (.subS n0 (.var v) l)])=>match E.T.get e,Z69 st.hp v with
    | some ei,some (e',ks,r)=>match rowX ei.zs with
     | some zx=>if e'=e/\ks=ei.ks/\n0=ks.length/\0<ks.length/\l.bd st.n=true/\r.bd st.n=true/\zx.bd st.n=true/\Z3l ks ei.zs=true then
       some (Z63 (.B true) (Z1o 0 l++Z6q l (.rlen r)) (k (St.put { st with hp:=setRow st.hp v (.clrR r l zx) } o.dst (.tup []))))else none
     | none=>none
    | _,_=>none
   | _,_=>none
  | _,_,_=>none
 | _=>none
def Sc.asm(x:X)(b:Bool):Sc->Sc
 | .bool y=>.bool (X.asm x b y)
 | s=>s
def SV.asm(x:X)(b:Bool):SV->SV
 | .cv (g,cs)=>.cv (g,cs.map (Sc.asm x b))
 | .gd g (h,cs)=>if X.asm x b g=.B true then .cv (h,cs.map (Sc.asm x b))else .gd (X.asm x b g) (h,cs.map (Sc.asm x b))
 | s=>s
def Zj0(x:X)(b:Bool)(fr:List SV)(n:Nat):List SV:=fr.map λs=>if(SV.asm x b s).bd n=true then SV.asm x b s else s
def St.asm(st:St)(x:X)(b:Bool):St:=match x with
 | .not y=>{ st with fr:=Zj0 y (!b) st.fr st.n }
 | x=>{ st with fr:=Zj0 x b st.fr st.n }
abbrev InlF:=Nat->List SV->St->(SV->St->Tree)->Option Tree
def Zl0(E:Env)(ops:List Oper)(o:Oper)(st:St):Option X :=
 match Z4h ops o st with
 | none=>none
 | some G =>
  if G=.B false\/G=.B true then none else
  match Ziy E st G o.op with
  | some _=>none
  | none =>
   let pure:=match o.op with
    | .call c=>match Z6t st G c with
     | some (f,args)=>!(E.inl.any λp=>p.1 == f) && (Zfl (args.flatMap SV.ptrs)).isEmpty && (match Zds E.T E.tups (E.ownF f) o.type st.n with|some (_,_,es)=>es.isEmpty|none=>false)
     | none=>false
    | _=>false
   if pure=true then none else
   match o.guard with
   | some (j,_)=>match (ops[j]?).bind (·.dst)with
    | some d=>match st.slot d with
     | .cv (false,[.bool x])=>if x.bd st.n=true then some x else none
     | .gd g _=>if g.bd st.n=true then some g else none
     | _=>none
    | none=>none
   | none=>none
def Zoc(E:Env)(inl:InlF)(ops:List Oper)(o:Oper)(st:St)(k:St->Tree):Tree :=
 match Z4h ops o st with
 | none=>.stuck "guard"
 | some G =>
  if G=.B false then k (st.put o.dst (.tup []))else
  match (if G=.B true then(match Zkz E ops o st k with|some t=>some t|none=>Zrf E o st k)else none)with
  | some t=>t
  | none =>
  match Ziy E st G o.op with
  | some (ns,c)=>Z63 G ns (k (st.put o.dst (if G=.B true then .cv c else .gd G c)))
  | none=>match o.op with
   | .call c=>match Z6t st G c with
    | some (f,args)=>match (if G=.B true then inl f args st (λr s=>k (St.put { st with n:=s.n,d:=s.d,hp:=s.hp } o.dst r))else none)with
     | some t=>t
     | none=>Zkv E o G st k f args
    | none=>.stuck "call"
   | _=>if G=.B true then Zre E o st k else .stuck "a guarded effect"
def Zta:X->Bool | .rV ..=>true|_=>false
def Zrh(o:Oper):Option (Nat×Nat):=match o.op with
 | .call c=>match c.callee,c.args.toList,c.argTypes.toList with
  | .builtin .len,[.tmp t],[ty]=>some (t,ty)
  | .builtin .append,[_,.tmp t],[_,ty]=>some (t,ty)
  | _,_,_=>none
 | _=>none
def Zl1(E:Env)(o:Oper)(st:St):Option (Nat×X×List Kd):=match Zrh o with
 | some (t,ty)=>match st.slot t,E.T.tag ty with
  | .cv (false,[.val x]),some (.slice e)=>match E.T.get e with
   | some ei=>if Zta x=true/\x.bd st.n=true then some (t,x,ei.ks)else none
   | none=>none
  | _,_=>none
 | none=>none
def Zj1(E:Env)(inl:InlF)(ops:List Oper)(o:Oper)(st:St)(k:St->Tree):Tree :=
 match (if Z4h ops o st=some (.B true)then Zl1 E o st else none)with
 | some (t,x,ks)=>.letV x (.openR st.n ks st.hp (Zoc E inl ops o (St.put { st with n:=st.n+2,hp:=.rd st.n ks (.var (st.n+1))::st.hp } (some t) (Z6a st.n)) k))
 | none=>Zoc E inl ops o st k
def Zod(E:Env)(inl:InlF)(ops:List Oper)(o:Oper)(st:St)(k:St->Tree):Tree :=
 match Zl0 E ops o st with
 | some x=>.ite x (Zj1 E inl ops o (st.asm x true) k) (Zj1 E inl ops o (st.asm x false) k)
 | none=>Zj1 E inl ops o st k
def Zoe(E:Env)(inl:InlF)(ops:List Oper)(o:Oper)(st:St)(k:St->Tree):Tree :=
 match Zl0 E ops o st with
 | some x=>.ite x (Zod E inl ops o (st.asm x true) k) (Zod E inl ops o (st.asm x false) k)
 | none=>Zj1 E inl ops o st k
def Zgz(st:St):Operand->Bool
 | .tmp t=>(match st.slot t with | .cv (false,[.nils])=>true|_=>false)
 | _=>false
def Zqi(E:Env)(o:Oper)(st:St):Option (Nat×Nat×List Kd) :=
 match o.op with
 | .call c=>match c.callee,c.args.toList,c.argTypes.toList with
  | .builtin .append,[x,y],[ty,_]=>match (if Zgz st x=true then some x else if Zgz st y=true then some y else none),E.T.tag ty with
   | some (.tmp t),some (.slice e)=>(E.T.get e).map λei=>(t,e,ei.ks)
   | _,_=>none
  | _,_,_=>none
 | _=>none
def Zl2:List Sc->List Nat
 | []=>[]
 | .val (.var u)::l=>u::Zl2 l
 | _::l=>Zl2 l
def Ztb(E:Env)(o:Oper)(st:St):List Nat :=
 if(E.joins.any λj=>j.1 == 11)=true then
  match o.op with
  | .buildSlice _ _ parts=>parts.toList.flatMap λp=>match st.rd (.B true) p.2 with|some (_,cs)=>Zl2 cs|none=>[]
  | _=>[]
 else[]
def Zh0(hp:List Ent):List Nat->List Ent
 | []=>hp
 | v::vs=>Zh0 (Z52 hp v) vs
def exOp(E:Env)(inl:InlF)(ops:List Oper)(o:Oper)(st:St)(k:St->Tree):Tree :=
 match Zqi E o st with
 | some (t,e,ks)=>.letV .nilS (Zoe E inl ops o (St.put { st with n:=st.n+1,hp:=.row st.n e ks .nilR::st.hp } (some t) (Z6a st.n)) k)
 | none=>Zoe E inl ops o { st with hp:=Zh0 st.hp (Ztb E o st) } k
def Zof(E:Env)(inl:InlF)(ops:List Oper):List Oper->St->(St->Tree)->Tree
 | [],st,k=>k st
 | o::rest,st,k=>exOp E inl ops o st λst=>Zof E inl ops rest st k
def Z43:List Oper->List (Nat×Nat)->List Nat
  | [],_=>[]
  | o::rest,m =>
    let root (t:Nat):Nat:=match m.find? λp=>p.1 == t with|some p=>p.2|none=>t
    let m':=match o.dst,o.op with
      | some d,.fieldAddr _ (.tmp q) _=>(d,root q)::m
      | some d,.nilCheck (.tmp q)=>(d,root q)::m
      | some d,.indexAddr _ (.tmp q) _=>(d,root q)::m
      | some d,.move (.tmp q)=>(d,root q)::m
      | _,_=>m
    (match o.op with
      | .store _ (.tmp p) _=>[root p]
      | .call c=>(match c.callee with | .value (.tmp t)=>[root t] | .value _=>[] | _=>[])++(match c.callee with | .builtin _=>[] | _=>c.args.toList.filterMap fun | .tmp p=>some (root p)|_=>none)
      | _=>[])++Z43 rest m'
structure Inv(C:Cx)(st:St)(J:List V)(a:Act)(w:World):Prop where
 len:J.length=st.n
 size:st.fr.length=a.tmps.size
 fr:∀j,(st.slot j).rel J (a.tmps.getD j undef)
 bdf:∀s∈st.fr,s.bd st.n=true
 bdh:st.hp.all (Ent.bd st.n)=true
 defers:a.defers=[]
 rel:Rel C.B J st.hp w
variable {C:Cx} {st:St} {J:List V} {a:Act} {w:World}
theorem St.slot_bd{st:St}(h:∀s∈st.fr,s.bd st.n=true)(j:Nat):(st.slot j).bd st.n=true:=by
 unfold St.slot;rw[qy1];cases hj:st.fr[j]? with
 | none=>rfl
 | some s=>exact h s (qy6 hj)
theorem Inv.put(h:Inv C st J a w)(d:Option Tmp){s:SV}{v:Value}(hs:s.rel J v):Inv C (st.put d s) J (a.put d v) w:=by
 cases d with
 | none=>exact h
 | some d =>
  have hr:(if s.bd st.n=true then s else SV.dead).rel J v:=by split;exact hs;trivial
  refine⟨h.len,by simp[St.put,Act.put,h.size],λj=>?_,λx hx=>?_,h.bdh,h.defers,h.rel⟩
  ·simp only[St.put,St.slot,Act.put,qy1,Array.getD_eq_getD_getElem?,List.getElem?_set,Array.getElem?_setIfInBounds];by_cases hj:d=j
   ·subst hj;by_cases hd:d<st.fr.length
    ·simp only[if_true,hd,if_pos (show d<a.tmps.size by rw[<- h.size];exact hd),Option.getD_some];exact hr
    ·simp only[if_true,hd,if_false,if_neg (show ¬d<a.tmps.size by rw[<- h.size];exact hd),Option.getD_none];trivial
   ·simp only[hj,if_false];have:=h.fr j;simpa only[St.slot,qy1,Array.getD_eq_getD_getElem?]using this
  ·rcases List.mem_or_eq_of_mem_set hx with hx|rfl
   ·exact h.bdf x hx
   ·split
    ·assumption
    ·rfl
theorem Inv.over(h:Inv C st J a w)(t:Nat){s:SV}(hs:s.rel J (a.tmps.getD t undef)):Inv C (st.put (some t) s) J a w:=by
 have hr:(if s.bd st.n=true then s else SV.dead).rel J (a.tmps.getD t undef):=by split;exact hs;trivial
 refine⟨h.len,by simp[St.put,h.size],λj=>?_,λx hx=>?_,h.bdh,h.defers,h.rel⟩
 ·simp only[St.put,St.slot,qy1,List.getElem?_set];by_cases hj:t=j
  ·subst hj;by_cases hd:t<st.fr.length
   ·simp only[if_true,hd,Option.getD_some];exact hr
   ·simp only[if_true,hd,if_false,Option.getD_none];trivial
  ·simp only[hj,if_false];have:=h.fr j;simpa only[St.slot,qy1]using this
 ·rcases List.mem_or_eq_of_mem_set hx with hx|rfl
  ·exact h.bdf x hx
  ·split
   ·assumption
   ·rfl
theorem Inv.ext(h:Inv C st J a w)(vs:List V):Inv C { st with n:=st.n+vs.length } (J++vs) a w:=by
 have ha:Z11 st.n J (J++vs):=by rw[<- h.len];exact Z11.app J vs
 refine⟨by simp[h.len],h.size,λj=>?_,λs hs=>SV.bd_mono (by simp) s (h.bdf s hs),?_,h.defers,h.rel.ext ha h.bdh⟩
 ·exact SV.rel_bd ha _ (St.slot_bd h.bdf j) _ (h.fr j)
 ·exact List.all_eq_true.2 λe he=>Ent.bd_mono (by simp) e (List.all_eq_true.1 h.bdh e he)
theorem Inv.world(h:Inv C st J a w){w':World}(hr:Rel C.B J st.hp w'):Inv C st J a w':=⟨h.len,h.size,h.fr,h.bdf,h.bdh,h.defers,hr⟩
theorem Inv.heap(h:Inv C st J a w){hp:List Ent}{w':World}(hb:hp.all (Ent.bd st.n)=true)(hr:Rel C.B J hp w'):Inv C { st with hp:=hp } J a w':=⟨h.len,h.size,h.fr,h.bdf,hb,h.defers,hr⟩
theorem Sc.asm_ok{J:List V}{x:X}{b:Bool}(h:(x.ev J).toB=b)(s:Sc):(Sc.asm x b s).ev J=s.ev J:=by cases s<;>simp only[Sc.asm];simp only[Sc.ev,X.asm_ok h]
theorem SV.asm_ok{J:List V}{x:X}{b:Bool}(h:(x.ev J).toB=b){s:SV}{v:Value}(hr:s.rel J v):(SV.asm x b s).rel J v:=by
 have hm:∀cs:List Sc,(cs.map (Sc.asm x b)).map (Sc.ev J)=cs.map (Sc.ev J):=by intro cs;rw[List.map_map];exact List.map_congr_left λs _=>Sc.asm_ok h s
 have hc:∀g (cs:List Sc),CV.ev J (g,cs.map (Sc.asm x b))=CV.ev J (g,cs):=by
  intro g cs;cases g
  ·match cs with
   | []=>rfl
   | [s]=>simp only[List.map_cons,List.map_nil,CV.ev,Sc.asm_ok h]
   | _::_::_=>rfl
  ·simp only[CV.ev,hm]
 cases s with
 | cv c =>
  obtain⟨g,cs⟩:=c;exact(show v=_ from hr).trans (hc g cs).symm
 | gd g c =>
  obtain⟨i,cs⟩:=c;obtain⟨h1,h2⟩:=hr;have hg:=X.asm_ok h g;simp only[SV.asm];split
  ·rename_i e;rw[e]at hg;exact(h1 hg.symm).trans (hc i cs).symm
  ·exact⟨λhg'=>(h1 (hg▸hg')).trans (hc i cs).symm,λhg'=>h2 (hg▸hg')⟩
 | _=>exact hr
theorem Inv.asm0(h:Inv C st J a w){x:X}{b:Bool}(hx:(x.ev J).toB=b):Inv C { st with fr:=Zj0 x b st.fr st.n } J a w:=by
 refine⟨h.len,by simp[Zj0,h.size],λj=>?_,λs hs=>?_,h.bdh,h.defers,h.rel⟩
 ·have:=h.fr j;simp only[St.slot,Zj0,qy1,List.getElem?_map]at this⊢;cases hj:st.fr[j]? with
  | none=>trivial
  | some s =>
   rw[hj]at this;simp only[Option.map_some,Option.getD_some]at this⊢;split
   ·exact SV.asm_ok hx this
   ·exact this
 ·simp only[Zj0,List.mem_map]at hs;obtain⟨s',hs',rfl⟩:=hs;split
  ·assumption
  ·exact h.bdf s' hs'
theorem Inv.asm(h:Inv C st J a w){x:X}{b:Bool}(hx:(x.ev J).toB=b):Inv C (st.asm x b) J a w:=by
 unfold St.asm;split
 ·rename_i y;refine h.asm0 ?_;rw[<- hx];simp[X.ev]
 ·exact h.asm0 hx
theorem St.asm_d(st:St)(x:X)(b:Bool):(st.asm x b).d=st.d:=by unfold St.asm;split<;>rfl
theorem Inv.back{st':St}{J':List V}{a':Act}{w':World}(h:Inv C st J a w)(h':Inv C st' J' a' w')(hp:J <+: J'):Inv C { st with n:=st'.n,d:=st'.d,hp:=st'.hp } J' a w':=by
 obtain⟨t,rfl⟩:=hp;have hag:Z11 st.n J (J++t):=by rw[<- h.len];exact Z11.app J t
 have hle:st.n<=st'.n:=by rw[<- h.len,<- h'.len];simp
 exact⟨h'.len,h.size,λj=>SV.rel_bd hag _ (St.slot_bd h.bdf j) _ (h.fr j),λs hs=>SV.bd_mono hle s (h.bdf s hs),h'.bdh,h.defers,h'.rel⟩
theorem Inv.rd_ok(h:Inv C st J a w){G:X}(hG:(G.ev J).toB=true){x:Operand}{c:CV}(hx:st.rd G x=some c):a.eval x=CV.ev J c:=by
 cases x with
 | tmp t =>
  have:=h.fr t;simp only[St.rd]at hx;split at hx
  ·rename_i c' hs;simp at hx;subst hx;rw[hs]at this;exact this
  ·rename_i g c' hs;simp only[Option.ite_none_right_eq_some,Option.some.injEq]at hx;obtain⟨hb,rfl⟩:=hx;rw[hs]at this;exact this.1 (X.bears_ok J G g hb hG)
  ·cases hx
 | const v =>
  simp only[St.rd,Option.map_eq_some_iff]at hx;obtain⟨s,hs,rfl⟩:=hx;exact(Sc.ofV_ok hs).symm
 | global g=>simp[St.rd]at hx
 | func f=>simp[St.rd]at hx
theorem Inv.rdA_ok(h:Inv C st J a w){G:X}(hG:(G.ev J).toB=true){x:Operand}{c:SV}(hx:st.rdA G x=some c):a.eval x=c.ev J:=by
 unfold St.rdA at hx;split at hx
 ·rename_i c' hc;simp at hx;subst hx;exact h.rd_ok hG hc
 ·split at hx
  ·rename_i t _;have:=h.fr t;split at hx
   ·rename_i f a' b' hs;simp at hx;subst hx;rw[hs]at this;exact this
   ·cases hx
  ·simp at hx;subst hx;rfl
  ·cases hx
theorem Inv.rdAll_ok(h:Inv C st J a w){G:X}(hG:(G.ev J).toB=true):∀{l:List Operand} {r:List SV},Z9t st G l=some r->l.map a.eval=r.map (SV.ev J):=by
 intro l;induction l with
 | nil=>intro r hr;simp[Z9t]at hr;subst hr;rfl
 | cons x l ih =>
  intro r hr;simp only[Z9t,Option.bind_eq_bind,Option.bind_eq_some_iff,Option.some.injEq]at hr;obtain⟨s,hs,r',hr',rfl⟩:=hr;simp[h.rdA_ok hG hs,ih hr']
theorem Rel.forMem{B:Base}{hp:List Ent}(h:Rel B J hp w)(b:Bool):Rel B J (forMem b hp) w:=by
 unfold Sx.forMem;split
 ·exact h
 ·exact h.sublist (List.nil_sublist _)
theorem Z5b{hp:List Ent}{v ty:Nat}{cs:List Sc}{e:Ent}(he:e∈Z5n hp v ty cs):(e=.cells v ty cs/\∃ty' cs',Ent.cells v ty' cs'∈hp)\/(e∈hp/\∀ty' cs',e≠.cells v ty' cs'):=by
 simp only[Z5n,List.mem_map]at he;obtain⟨x,hx,rfl⟩:=he;cases x with
 | cells u ty' cs' =>
  by_cases hu:u=v
  ·subst hu;left;simp;exact⟨ty',cs',hx⟩
  ·right;simp only[hu,if_false];exact⟨hx,λ_ _ h=>by simp at h;exact absurd h.1 hu⟩
 | _=>right;exact⟨hx,λ_ _ h=>by cases h⟩
theorem Rel.update{B:Base}{hp:List Ent}{v ty0 ty:Nat}{cs0 cs:List Sc}{w':World}(h:Rel B J hp w)(hm:Ent.cells v ty0 cs0∈hp) (hmod:Mod [(J.getD v (.i 0)).toN] w w') (hb:(Ent.cells v ty cs).holds J w'):Rel B J (Z5n hp v ty cs) w':=by
 have hown:=h.own _ hm rfl _ rfl;have hsep:∀e∈hp,(∀ty' cs',e≠.cells v ty' cs')->¬e.fp J (J.getD v (.i 0)).toN:=by
  intro e he hne hk;obtain⟨l1,l2,rfl⟩:=List.append_of_mem hm;have hp:=h.sep;unfold Zv at hp;rw[List.pairwise_append]at hp;obtain⟨p1,p2,p3⟩:=hp;rw[List.pairwise_cons]at p2;rcases qy13.1 he with he|he
  ·exact p3 e he _ (qy8 ..) (.inr rfl) _ hk rfl
  ·rcases List.mem_cons.1 he with rfl|he
   ·exact hne _ _ rfl
   ·exact p2.1 e he (.inl rfl) _ rfl hk
 refine⟨h.mod.trans hmod (λk hk=>by simp at hk;subst hk;rcases hown with h1|h1;exact .inr h1;exact .inl h1),λe he=>?_,λe he hw k hk=>?_,?_⟩
 ·rcases Z5b he with⟨rfl,-⟩|⟨he,hne⟩
  ·exact hb
  ·exact Ent.stable (h.holds e he) λk hk=>hmod.block k (Ent.bound (h.holds e he) hk) (λhn=>by simp at hn;subst hn;exact hsep e he hne hk)
 ·rcases Z5b he with⟨rfl,-⟩|⟨he,-⟩
  ·have hk':k=(J.getD v (.i 0)).toN:=hk;rw[hk'];exact hown
  ·exact h.own e he hw k hk
 ·unfold Z5n Zv;rw[List.pairwise_map];refine List.Pairwise.imp_of_mem (λ{x y} hx hy hxy=>?_) h.sep;have key:∀e:Ent,(match e with | .cells u ty' cs'=>if u=v then Ent.cells v ty cs else .cells u ty' cs' | e=>e).wr=e.wr /\
    ∀k,(match e with | .cells u ty' cs'=>if u=v then Ent.cells v ty cs else .cells u ty' cs' | e=>e).fp J k↔e.fp J k:=by
   intro e;cases e with
   | cells u ty' cs' =>
    by_cases hu:u=v
    ·subst hu;simp[Ent.wr,Ent.fp]
    ·simp[hu]
   | _=>simp
  intro hw k h1 h2;exact hxy (by rw[<- (key x).1,<- (key y).1];exact hw) k (((key x).2 k).1 h1) (((key y).2 k).1 h2)
theorem Zfn{hp:List Ent}{n v ty:Nat}{cs:List Sc}(h:hp.all (Ent.bd n)=true)(hc:cs.all (Sc.bd n)=true):(Z5n hp v ty cs).all (Ent.bd n)=true:=by
 refine List.all_eq_true.2 λe he=>?_;rcases Z5b he with⟨rfl,ty',cs',hm⟩|⟨he,-⟩
 ·have:=List.all_eq_true.1 h _ hm;simp only[Ent.bd,Bool.and_eq_true]at this⊢;exact⟨this.1,hc⟩
 ·exact List.all_eq_true.1 h e he
theorem Rel.disj{B:Base}{hp:List Ent}(h:Rel B J hp w){e e':Ent}(he:e∈hp)(he':e'∈hp)(hne:e≠e')(hw:e.wr=true\/e'.wr=true){k:Nat}(hk:e.fp J k)(hk':e'.fp J k):False:=by
 obtain⟨l1,l2,rfl⟩:=List.append_of_mem he;have hp:=h.sep;unfold Zv at hp;rw[List.pairwise_append]at hp;obtain⟨p1,p2,p3⟩:=hp;rw[List.pairwise_cons]at p2;rcases qy13.1 he' with he' | he'
 ·exact p3 e' he' _ (qy8 ..) hw.symm _ hk' hk
 ·rcases List.mem_cons.1 he' with rfl|he'
  ·exact hne rfl
  ·exact p2.1 e' he' hw _ hk hk'
theorem Z2w(ms:List Ent)(e:Ent) : (Z8l ms e).wr=e.wr/\(∀k,(Z8l ms e).fp J k↔e.fp J k)/\((∃u ty cs,e=.cells u ty cs/\∃ty' cs',Zm ms u=some (ty',cs')/\Z8l ms e=.cells u ty' cs')\/(Z8l ms e=e/\∀u ty cs,e=.cells u ty cs->Zm ms u=none)):=by
 cases e with
 | cells u ty cs =>
  cases hc:Zm ms u with
  | none=>simp[Z8l,hc]
  | some p=>obtain⟨ty',cs'⟩:=p;simp[Z8l,hc,Ent.wr,Ent.fp]
 | _=>simp[Z8l]
theorem Rel.setAll{B:Base}{hp ms:List Ent}{mods:List Nat}{gs:List Nat}{w':World}(h:Rel B J hp w)(hmod:Mod ((mods.map λv=>(J.getD v (.i 0)).toN)++gs) w w') (hgs:∀k∈gs,(B.w0.heap.size<=k\/k∈B.fp)/\∀e∈hp,¬e.fp J k) (hin:∀v∈mods,(∃ty cs,Ent.cells v ty cs∈hp)/\Zm ms v≠none) (hh:∀x∈ms,x.holds J w'):Rel B J (setAll hp ms) w':=by
 have hfree:∀e∈hp,(∀u ty cs,e=.cells u ty cs->Zm ms u=none)->∀k,e.fp J k->k ∉ (mods.map λv=>(J.getD v (.i 0)).toN)++gs:=by
  intro e he hno k hk hm;rcases qy13.1 hm with hm|hm
  case inr=>exact(hgs k hm).2 e he hk
  simp only[List.mem_map]at hm;obtain⟨v,hv,rfl⟩:=hm;obtain⟨⟨ty,cs,hc⟩,hf⟩:=hin v hv;refine h.disj he hc (λe1=>hf (hno v ty cs e1)) (.inr rfl) hk rfl
 refine⟨h.mod.trans hmod (λk hk=>?_),λe he=>?_,λe he hw k hk=>?_,?_⟩
 ·rcases qy13.1 hk with hk|hk
  case inr=>exact(hgs k hk).1.symm
  simp only[List.mem_map]at hk;obtain⟨v,hv,rfl⟩:=hk;obtain⟨⟨ty,cs,hc⟩,-⟩:=hin v hv;rcases h.own _ hc rfl _ rfl with h1|h1
  ·exact .inr h1
  ·exact .inl h1
 ·simp only[Sx.setAll,List.mem_map]at he;obtain⟨x,hx,rfl⟩:=he;obtain⟨-,-,h3⟩:=Z2w (J:=J) ms x;rcases h3 with⟨u,ty,cs,rfl,ty',cs',hc,he⟩|⟨he,hno⟩
  ·rw[he];exact hh _ (Z2h hc)
  ·rw[he];exact Ent.stable (h.holds x hx) λk hk=>hmod.block k (Ent.bound (h.holds x hx) hk) (hfree x hx hno k hk)
 ·simp only[Sx.setAll,List.mem_map]at he;obtain⟨x,hx,rfl⟩:=he;obtain⟨h1,h2,-⟩:=Z2w (J:=J) ms x;exact h.own x hx (by rw[<- h1];exact hw) k ((h2 k).1 hk)
 ·unfold Zv Sx.setAll;rw[List.pairwise_map];refine List.Pairwise.imp_of_mem (λ{x y} hx hy hxy=>?_) h.sep;obtain⟨h1,h2,-⟩:=Z2w (J:=J) ms x;obtain⟨h1',h2',-⟩:=Z2w (J:=J) ms y;intro hw k ha hb;exact hxy (by rw[<- h1,<- h1'];exact hw) k ((h2 k).1 ha) ((h2' k).1 hb)
theorem Rel.appendNew{B:Base}{hp hp':List Ent}{gs:List Nat}{w':World}(h0:Rel B J hp w)(h:Rel B J hp' w') (hgs:∀k∈gs,(B.w0.heap.size<=k\/k∈B.fp)/\∀e∈hp',¬e.fp J k) (hfp:∀e∈hp',∃e0∈hp,e.wr=e0.wr/\∀k,e.fp J k->e0.fp J k) : ∀(es:List Ent),(∀x∈es,x.holds J w'/\∀k,x.fp J k->w.heap.size<=k\/(x.wr=false/\∃y∈hp,y.wr=false/\y.fp J k)\/k∈gs)->Zv J es->Rel B J (es++hp') w':=by
 intro es;induction es with
 | nil=>intro _ _;exact h
 | cons e es ih =>
  intro hes hap;unfold Zv at hap;rw[List.pairwise_cons]at hap;have ih':=ih (λx hx=>hes x (qy10 _ hx)) hap.2;obtain⟨hh,hfpe⟩:=hes e (qy8 ..);refine ih'.cons hh (λhw k hk=>?_) (λe' he' hw k hk hk'=>?_)
  ·rcases hfpe k hk with h1|⟨h1,-⟩|h1
   ·exact .inl (Nat.le_trans h0.mod.size h1)
   ·rw[h1]at hw;cases hw
   ·exact(hgs k h1).1
  ·rcases qy13.1 he' with he' | he'
   ·exact hap.1 e' he' hw k hk hk'
   ·obtain⟨e0,he0,hw0,hf0⟩:=hfp e' he';have hk0:=hf0 k hk';rcases hfpe k hk with h1|⟨h1,y,hy,hyw,hyk⟩|h1
    ·have:=Ent.bound (h0.holds e0 he0) hk0;omega
    ·rcases hw with hw|hw
     ·rw[h1]at hw;cases hw
     ·refine h0.disj hy he0 (λe=>?_) (.inr (by rw[<- hw0];exact hw)) hyk hk0;rw[hw0,<- e,hyw]at hw;cases hw
    ·exact(hgs k h1).2 e' he' hk'
end Go.Sx
namespace Go.Sx
open Go
def Z9u(P:Program)(f:Nat):Bool :=
 match P.funcs[f]? with
 | some fn=>(fn.name != "runtime.NumGoroutine") && fn.body.isSome
 | none=>false
structure EnvOK(P:Program)(E:Env):Prop where
 tab:Z9o P E.T
 fs:∀f∈E.fs,Z9u P f=true
 mixed:P.follows .mixedOrders=true
 inl:∀p∈E.inl,P.funcs[p.1]?=some p.2
theorem EnvOK.joins{P:Program}{E:Env}(h:EnvOK P E)(js:List (Nat×Nat×Nat)):EnvOK P { E with joins:=js }:=⟨h.tab,h.fs,h.mixed,h.inl⟩
variable {C:Cx} {st:St} {J:List V} {a:Act} {w:World} {E:Env} {L:List LC}
theorem Zri{G n:X}:((impl G n).P J↔((G.ev J).toB=true->(n.ev J).toB=true)):=by
 unfold impl;split
 ·rename_i h;subst h;simp[X.P_iff,X.ev]
 ·simp only[X.P,X.P_iff,Z4e];cases(G.ev J).toB<;>simp
theorem Z2z{G:X}{t:Tree}:∀{ns:List X},(Z63 G ns t).goal C J L->((G.ev J).toB=true->Z51 J ns)/\t.goal C J L:=by
 intro ns;induction ns with
 | nil=>intro h;exact⟨λ_ x hx=>by simp at hx,h⟩
 | cons n ns ih =>
  intro h;simp only[Z63,Tree.goal]at h;obtain⟨h1,h2⟩:=h;obtain⟨h3,h4⟩:=ih h2;refine⟨λhG x hx=>?_,h4⟩;rcases List.mem_cons.1 hx with rfl|hx
  ·exact Zri.1 h1 hG
  ·exact h3 hG x hx
theorem Zcg{ops:List Oper}{o:Oper}{G:X}(h:Inv C st J a w)(hg:Z4h ops o st=some G):Region.wanted o (yielded ops.toArray a.tmps)=(G.ev J).toB:=by
 unfold Z4h at hg;unfold Region.wanted;split at hg
 ·rename_i hn;simp at hg;subst hg;simp[hn,X.ev]
 ·rename_i j want hn;simp only[hn];simp only[Option.bind_eq_bind,Option.bind_eq_some_iff]at hg;obtain⟨oj,hj,d,hd,hg⟩:=hg;have hrel:=h.fr d;have hy:∀b,a.tmps.getD d undef=.bool b->yielded ops.toArray a.tmps j=some b:=by
   intro b hb;have:a.tmps[d]?=some (.bool b):=by
    rw[Array.getD_eq_getD_getElem?]at hb;cases ht:a.tmps[d]? with
    | none=>rw[ht]at hb;simp[undef]at hb
    | some v=>rw[ht]at hb;simp at hb;rw[hb]
   simp[yielded,hj,hd,this]
  have hn:a.tmps.getD d undef=undef->yielded ops.toArray a.tmps j=none:=by
   intro hb;simp only[yielded,List.getElem?_toArray,hj,hd,Option.bind_some];rw[Array.getD_eq_getD_getElem?]at hb;cases ht:a.tmps[d]? with
   | none=>rfl
   | some v=>rw[ht]at hb;simp at hb;rw[hb];rfl
  split at hg
  ·rename_i x hs;simp at hg;subst hg;rw[hs]at hrel;rw[hy _ hrel];cases want<;>simp[Z4e]<;>cases(x.ev J).toB<;>simp
  ·rename_i g x hs;simp at hg;subst hg;rw[hs]at hrel;obtain⟨h1,h2⟩:=hrel;rw[Z6o];cases hgv:(g.ev J).toB
   ·rw[hn (h2 hgv)];simp
   ·rw[hy _ (h1 hgv)];cases want<;>simp[Z4e]<;>cases(x.ev J).toB<;>simp
  ·rename_i hs;simp at hg;subst hg;rw[hs]at hrel;rw[hn hrel];simp[X.ev]
  ·cases hg
theorem Zh1{n:Nat}{x:X}(h:x.bd n=true):(Z8v x).bd n=true:=by cases x<;>simp_all [Z8v,X.bd]
theorem Zog{n:Nat}{x y:X}(h:x.bd n=true)(h':y.bd n=true):(Z9p x y).bd n=true:=by unfold Z9p;split<;>simp_all [X.bd]
theorem Zoh{ops:List Oper}{o:Oper}{G:X}(h:Inv C st J a w)(hg:Z4h ops o st=some G):G.bd st.n=true:=by
 unfold Z4h at hg;split at hg
 ·simp at hg;subst hg;rfl
 ·rename_i j want hn;simp only[Option.bind_eq_bind,Option.bind_eq_some_iff]at hg;obtain⟨oj,hj,d,hd,hg⟩:=hg;have hb:=St.slot_bd h.bdf d;split at hg
  ·rename_i x hs;simp at hg;subst hg;rw[hs]at hb;have hb:x.bd st.n=true:=by simpa[SV.bd,CV.bd,Sc.bd]using hb
   cases want
   ·exact Zh1 hb
   ·exact hb
  ·rename_i g x hs;simp at hg;subst hg;rw[hs]at hb;have hb:g.bd st.n=true/\x.bd st.n=true:=by simpa[SV.bd,CV.bd,Sc.bd]using hb
   refine Zog hb.1 ?_;cases want
   ·exact Zh1 hb.2
   ·exact hb.2
  ·simp at hg;subst hg;rfl
  ·cases hg
theorem Zl3{G:X}{c x y:Operand}{s:Sc}(h:Inv C st J a w)(hG:(G.ev J).toB=true)(hp:Zgy st G c x y=some s) : ∃b,a.eval c=.bool b/\(if b then a.eval x else a.eval y)=s.ev J:=by
 unfold Zgy at hp;split at hp
 ·rename_i hc;refine⟨true,by simpa[CV.ev,Sc.ev,X.ev]using h.rd_ok hG hc,?_⟩;split at hp
  ·rename_i s' hs;simp at hp;subst hp;exact h.rd_ok hG hs
  ·cases hp
 ·rename_i hc;refine⟨false,by simpa[CV.ev,Sc.ev,X.ev]using h.rd_ok hG hc,?_⟩;split at hp
  ·rename_i s' hs;simp at hp;subst hp;exact h.rd_ok hG hs
  ·cases hp
 ·rename_i cx _ _ hc;have hc:=h.rd_ok hG hc;simp only[CV.ev,Sc.ev]at hc;refine⟨_,hc,?_⟩;have hx:∀c',st.rd (Z9p G cx) x=some c'->(cx.ev J).toB=true->a.eval x=CV.ev J c':=λc' hr hcx=>h.rd_ok (by rw[Z6o,hG,hcx];rfl) hr;have hy:∀c',st.rd (Z9p G (Z8v cx)) y=some c'->(cx.ev J).toB=false->a.eval y=CV.ev J c':=λc' hr hcx=>h.rd_ok (by rw[Z6o,hG,Z4e,hcx];rfl) hr;split at hp
  ·rename_i u v hu hv;simp at hp;subst hp;simp only[Sc.ev,Zkb];cases hb:(cx.ev J).toB
   ·simp[hy _ hv hb,CV.ev,Sc.ev]
   ·simp[hx _ hu hb,CV.ev,Sc.ev]
  ·rename_i k u k' v hu hv;simp only[Option.ite_none_right_eq_some,Option.some.injEq]at hp;obtain⟨rfl,rfl⟩:=hp;simp only[Sc.ev,X.ev];cases hb:(cx.ev J).toB
   ·simp[hy _ hv hb,CV.ev,Sc.ev]
   ·simp[hx _ hu hb,CV.ev,Sc.ev]
  ·rename_i u v hu hv;simp at hp;subst hp;simp only[Sc.ev,X.ev];cases hb:(cx.ev J).toB
   ·simp[hy _ hv hb,CV.ev,Sc.ev]
   ·simp[hx _ hu hb,CV.ev,Sc.ev]
  ·cases hp
 ·cases hp
theorem Zh2(hE:EnvOK C.P E){G:X}{o:Oper}{ns:List X}{c:CV}{hp:List Ent}{w':World}(h:Inv C st J a w)(hh:Hold J hp w')(hG:(G.ev J).toB=true) (hv:Ziy E { st with hp:=hp } G o.op=some (ns,c)) (hn:Z51 J ns):(execOp a.eval o).run C.P w'=.ok (.value (CV.ev J c)) w':=by
 unfold Ziy at hv;split at hv
 ·rename_i x y z hop;simp only[Option.map_eq_some_iff,Prod.mk.injEq]at hv;obtain⟨s,hs,rfl,rfl⟩:=hv;have hs:Zgy st G x y z=some s:=hs;obtain⟨b,hb,hr⟩:=Zl3 h hG hs;simp only[CV.ev];rw[<- hr];unfold execOp;simp only[hop,hb];simp[go_sem]
 ·exact Zkn hE.tab hh (λx c hx=>h.rd_ok hG hx) hv hn
theorem Zoi(hE:EnvOK C.P E){G:X}{o:Oper}{ns:List X}{c:CV}(h:Inv C st J a w)(hG:(G.ev J).toB=true)(hv:Ziy E st G o.op=some (ns,c))(hn:Z51 J ns) : (execOp a.eval o).run C.P w=.ok (.value (CV.ev J c)) w:=Zh2 hE h h.rel.holds hG hv hn
theorem ext0(h:Inv C st J a w){n:Nat}(vs:List V)(hv:vs.length=n - st.n)(hn:st.n<=n):Inv C { st with n:=n } (J++vs) a w:=by have:=h.ext vs;rw[hv,Nat.add_sub_cancel' hn]at this;exact this
end Go.Sx
namespace Go.Sx
open Go
variable {C:Cx} {st:St} {J:List V} {a:Act} {w:World} {E:Env} {L:List LC}
theorem Z5c{G:X}{o:Oper}{c:Call}{f:Nat}{args:List SV}(h:Inv C st J a w)(hG:(G.ev J).toB=true)(ho:o.op=.call c)(hc:Z6t st G c=some (f,args)) (hf:Z9u C.P f=true):(execOp a.eval o).run C.P w=.ok (.enter f (args.map (SV.ev J)).toArray) w:=by
 obtain⟨callee,cargs,ctys⟩:=c;obtain⟨cargs⟩:=cargs;unfold Z9u at hf;have hen:∀vs,(callFunc f vs).run C.P w=.ok (.enter f vs) w:=by
  intro vs;split at hf
  ·rename_i fn hfn;simp only[Bool.and_eq_true,bne_iff_ne,ne_eq]at hf;obtain⟨h1,h2⟩:=hf;have h5:¬fn.body=none:=by cases hb:fn.body<;>simp_all
   simp[callFunc,go_sem,hfn,h1,h5]
  ·cases hf
 unfold execOp;simp only[ho];unfold Z6t at hc;split at hc
 ·rename_i f' hcal;simp only[]at hcal;subst hcal;simp only[Option.map_eq_some_iff,Prod.mk.injEq]at hc;obtain⟨args',hargs,rfl,rfl⟩:=hc;have:=h.rdAll_ok hG hargs;have hm:(cargs.toArray.map a.eval)=(args'.map (SV.ev J)).toArray:=by rw[<- this];simp
  simp only[resolve,hm,Sem.run_bind,Act.eval,Deferred.ofValue];simp[go_sem,invoke,hen]
 ·rename_i t hcal;simp only[]at hcal;subst hcal;split at hc
  ·rename_i f' first caps args' hs hargs
   simp only[Option.some.injEq,Prod.mk.injEq]at hc;obtain⟨rfl,rfl⟩:=hc;have:=h.rdAll_ok hG hargs;have hm:(cargs.toArray.map a.eval)=(args'.map (SV.ev J)).toArray:=by rw[<- this];simp
   have hrel:=h.fr t;rw[hs]at hrel;have hrel:a.eval (.tmp t)=SV.ev J (.fn f' first caps):=hrel;simp only[resolve,hm,hrel,SV.ev,Sem.run_bind,Deferred.ofValue];have e:∀l:List Sc,(l.map λs=>SV.cv (false,[s])).map (SV.ev J)=l.map (Sc.ev J):=by intro l;simp[SV.ev,CV.ev]
   simp only[List.map_append,e];simp[go_sem,invoke,hen]
  ·cases hc
 ·cases hc
theorem Z9v{T:Tab}{own:Nat->Bool}:∀{ss:List Sc} {n:Nat} {tys:List (Option Nat)},n<=(Z4i T own n tys ss).2.1/\∀e∈(Z4i T own n tys ss).2.2,∀v ty cs,e≠.cells v ty cs:=by
 intro ss;induction ss with
 | nil=>intro n tys;exact⟨Nat.le_refl _,λe he=>by simp[Z4i]at he⟩
 | cons s ss ih =>
  intro n tys;simp only[Z4i];split<;>(try split)<;>(try split)<;>(try split)<;>simp only[] <;>
   (refine⟨Nat.le_trans (by omega) ih.1,λe he=>?_⟩;rcases qy13.1 he with he|he<;>first|exact ih.2 e he|(simp at he;done)|(simp at he;subst he;intro v ty cs h;cases h)|(rw[qy12]at he;subst he;intro v ty cs h;split at h<;>cases h))
theorem Zdu{T:Tab}{own:Nat->Bool}{t n n':Nat}{c:CV}{es:List Ent}(h:Zgv T own t n=some (c,n',es)):n<=n'/\∀e∈es,∀v ty cs,e≠.cells v ty cs:=by
 unfold Zgv at h;split at h
 ·simp at h;obtain⟨rfl,rfl,rfl⟩:=h;exact⟨by omega,λe he=>by simp at he⟩
 ·split at h
  ·split at h<;>simp at h
   ·obtain⟨rfl,rfl,rfl⟩:=h;exact⟨by omega,λe he=>by simp at he;subst he;simp⟩
   ·obtain⟨rfl,rfl,rfl⟩:=h;exact⟨by omega,λe he=>by simp at he;subst he;simp⟩
   ·obtain⟨rfl,rfl,rfl⟩:=h;exact⟨by omega,λe he=>by simp at he⟩
  ·cases h
  ·simp at h;obtain⟨rfl,rfl,rfl⟩:=h;exact Z9v
theorem Zj2{T:Tab}{own:Nat->Bool}:∀{ts:List Nat} {n n':Nat} {cs:List CV} {es:List Ent},Z9s T own ts n=some (cs,n',es)->n<=n'/\∀e∈es,∀v ty cs,e≠.cells v ty cs:=by
 intro ts;induction ts with
 | nil=>intro n n' cs es h;simp[Z9s]at h;obtain⟨rfl,rfl,rfl⟩:=h;exact⟨Nat.le_refl _,λe he=>by simp at he⟩
 | cons t ts ih =>
  intro n n' cs es h;simp only[Z9s,Option.bind_eq_bind,Option.bind_eq_some_iff,Option.some.injEq,Prod.mk.injEq]at h;obtain⟨⟨c,n1,e1⟩,h1,⟨cs',n2,e2⟩,h2,rfl,rfl,rfl⟩:=h;obtain⟨a1,b1⟩:=Zdu h1;obtain⟨a2,b2⟩:=ih h2;exact⟨by simp only[]at *;omega,λe he=>by rcases qy13.1 he with he|he;exact b1 e he;exact b2 e he⟩
theorem Zh3{T:Tab}{tups:List (Nat×List Nat)}{own:Nat->Bool}{t n n':Nat}{c:SV}{es:List Ent}(h:Zds T tups own t n=some (c,n',es)):n<=n'/\∀e∈es,∀v ty cs,e≠.cells v ty cs:=by
 unfold Zds at h;split at h<;>simp only[Option.bind_eq_bind]at h
 ·simp only[Option.bind_eq_some_iff]at h;obtain⟨⟨cs,n1,e1⟩,h1,h⟩:=h;obtain⟨a1,b1⟩:=Zj2 h1;split at h<;>simp at h<;>obtain⟨rfl,rfl,rfl⟩:=h
  ·exact⟨by omega,λe he=>by rcases qy13.1 he with he|he;exact b1 e he;(simp at he;subst he;simp)⟩
  ·exact⟨a1,b1⟩
 ·simp only[Option.bind_eq_some_iff]at h;obtain⟨⟨cs,n1,e1⟩,h1,h⟩:=h;obtain⟨a1,b1⟩:=Zdu h1;split at h<;>simp at h<;>obtain⟨rfl,rfl,rfl⟩:=h
  ·exact⟨by omega,λe he=>by rcases qy13.1 he with he|he;exact b1 e he;(simp at he;subst he;simp)⟩
  ·exact⟨a1,b1⟩
theorem Zoj{T:Tab}{R:List Nat}:∀{mods:List Nat} {n n':Nat} {hp ms news:List Ent},Z42 T R n mods hp=some (n',ms,news) -> n<=n'/\∀v∈mods,(∃ty cs,Ent.cells v ty cs∈hp)/\Zm ms v≠none:=by
 intro mods;induction mods with
 | nil=>intro n n' hp ms news h;simp[Z42]at h;obtain⟨rfl,rfl,rfl⟩:=h;exact⟨Nat.le_refl _,λv hv=>by simp at hv⟩
 | cons v vs ih =>
  intro n n' hp ms news h;simp only[Z42,Option.bind_eq_bind,Option.bind_eq_some_iff,Option.some.injEq,Prod.mk.injEq]at h;obtain⟨⟨ty,cs⟩,hc,⟨n1,es,nw⟩,h1,rfl,rfl,rfl⟩:=h;obtain⟨a1,b1⟩:=ih h1;refine⟨Nat.le_trans Z9v.1 a1,λu hu=>?_⟩;rcases List.mem_cons.1 hu with rfl|hu
  ·exact⟨⟨ty,cs,Z2h hc⟩,by simp[Zm]⟩
  ·obtain⟨c1,c2⟩:=b1 u hu;refine⟨c1,?_⟩;simp only[Zm];split
   ·simp
   ·exact c2
theorem Z44:∀{hp:List Ent} {v e:Nat} {ks:List Kd} {r:X},Z69 hp v=some (e,ks,r)->Ent.row v e ks r∈hp:=by
 intro hp;induction hp with
 | nil=>intro v e ks r h;simp[Z69]at h
 | cons x l ih =>
  intro v e ks r h;cases x with
  | row u e' ks' r' =>
   simp only[Z69]at h;split at h
   ·rename_i hu;subst hu;simp at h;obtain⟨rfl,rfl,rfl⟩:=h;exact qy8 ..
   ·exact qy10 _ (ih h)
  | _=>simp only[Z69]at h;exact qy10 _ (ih h)
theorem SV.rel_of_ev{s:SV}{x:Value}(h:x=s.ev J)(hv:s.isVal=true):s.rel J x:=by cases s<;>simp[SV.isVal]at hv<;>exact h
theorem Z30{T:Tab}{tups:List (Nat×List Nat)}{own:Nat->Bool}{t n n':Nat}{c:SV}{es:List Ent}(h:Zds T tups own t n=some (c,n',es)):(∃x,c=.cv x)\/∃x,c=.tup x:=by unfold Zds at h;split at h<;>simp only[Option.bind_eq_bind,Option.bind_eq_some_iff]at h<;>obtain⟨⟨cs,n1,e1⟩,h1,h⟩:=h<;>split at h<;>simp at h<;>obtain⟨rfl,-,-⟩:=h<;>simp
theorem Zl4(hE:EnvOK C.P E){o:Oper}{G:X}{c:Call}{f:Nat}{args:List SV}{k:St->Tree}{K:Act->World->Prop}{Q:Exit->Act->World->Prop} (hi:Inv C st J a w) (hGb:G.bd st.n=true) (ho:o.op=.call c) (hc:Z6t st G c=some (f,args)) (hk:∀st' J' a' w',st'.d=st.d->J <+: J'->(k st').goal C J' L->Inv C st' J' a' w'->K a' w') (hg:(Zkv E o G st k f args).goal C J L) : if(G.ev J).toB=true then o.wp C.P a w K Q else K (a.put o.dst undef) w:=by
 have hput:∀(st:St) (s:SV),(st.put o.dst s).d=st.d:=by intro st s;cases ho':o.dst<;>rfl
 unfold Zkv at hg;split at hg
 ·exact hg.elim
 ·rename_i hfs;have hf:Z9u C.P f=true:=hE.fs f (by simpa using hfs);split at hg
  ·rename_i hsp;unfold Zkt at hsp;rw[Bool.and_eq_true,beq_iff_eq]at hsp;obtain⟨rfl,-⟩:=hsp;obtain⟨hcall,hg⟩:=hg;simp only[X.ev,V.toB_b,if_true];unfold Oper.wp;rw[Z5c hi rfl ho hc hf];simp only[Oper.upon];refine(hcall w hi.rel).mono ?_;rintro e w1 ⟨rfl,hr⟩;have hb:(Zks st.hp args).all (Ent.bd st.n)=true:=List.all_eq_true.2 λe he=>List.all_eq_true.1 hi.bdh e (List.mem_filter.1 he).1;refine hk _ J _ _ (by exact hput _ _) List.prefix_rfl hg ((hi.heap hb hr).put _ ?_);rfl
  split at hg
  ·exact hg.elim
  ·rename_i res n1 es hres;obtain⟨hle,hes⟩:=Zh3 hres;simp only[]at hg;split at hg
   ·
    simp only[Tree.goal]at hg;obtain⟨vs,hvl,hcall,hg⟩:=hg;have hi1:=ext0 hi (n:=n1) vs hvl hle;have hGe:G.ev (J++vs)=G.ev J:=(X.ev_bd (by rw[<- hi.len];exact Z11.app J vs) G hGb).symm;by_cases hG:(G.ev J).toB=true
    ·rw[if_pos hG];unfold Oper.wp;rw[Z5c hi hG ho hc hf];simp only[Oper.upon];refine(hcall ((X.P_iff J G).2 hG) w (hi.rel.forMem _)).mono ?_;rintro e w1 ⟨rfl,hm⟩;refine hk _ _ _ _ (by exact hput _ _) (List.prefix_append J vs) hg ((hi1.world (hi1.rel.step hm (by simp) (by simp))).put _ ?_);rcases Z30 hres with⟨x,rfl⟩|⟨x,rfl⟩
     ·simp only[];split
      ·rfl
      ·exact⟨λ_=>rfl,λh=>by rw[hGe,hG]at h;cases h⟩
     ·simp only[];split
      ·rfl
      ·trivial
    ·rw[if_neg hG];have hG':(G.ev J).toB=false:=by simpa using hG
     have hGn:¬G=.B true:=by rintro rfl;simp[X.ev]at hG
     refine hk _ _ _ _ (by exact hput _ _) (List.prefix_append J vs) hg (hi1.put _ ?_);rcases Z30 hres with⟨x,rfl⟩|⟨x,rfl⟩
     ·simp only[if_neg hGn];exact⟨(λh=>by rw[hGe,hG']at h;cases h),λ_=>rfl⟩
     ·simp only[if_neg hGn];trivial
   ·split at hg
    ·rename_i hGt;subst hGt;simp only[X.ev,V.toB_b,if_true];split at hg
     ·exact hg.elim
     ·rename_i n2' ms news' hh;obtain⟨hle2',hin⟩:=Zoj hh;have hdp:=Zku (Zrd E f (es++news')) n2' news';generalize Zgx (Zrd E f (es++news')) n2' news'=q at hg hdp
      obtain⟨n2,news⟩:=q
      (try simp only[]at hg);(try simp only[]at hdp)
      have hle2:n1<=n2:=Nat.le_trans hle2' hdp;split at hg
      ·rename_i hbd;simp only[Bool.and_eq_true]at hbd;obtain⟨hbd,hgone⟩:=hbd;generalize hgd:Zkq E f st.hp (Zfl (args.flatMap SV.ptrs)) args=gone at hg hbd hgone
       simp only[Tree.goal]at hg;unfold Oper.wp;rw[Z5c hi rfl ho hc hf];simp only[Oper.upon];refine(hg w hi.rel).mono ?_;rintro e w1 ⟨vs,hvl,rfl,hm,hms,hesh,hap,hg⟩;simp only[];have hi1:=ext0 hi (n:=n2) vs hvl (by omega);have hag:Z11 st.n J (J++vs):=by rw[<- hi.len];exact Z11.app J vs
       have hbh:=List.all_eq_true.1 hi.bdh;have hgrow:∀u∈gone,∃e ks r,Ent.row u e ks r∈st.hp:=λu hu=>by
        have:=List.all_eq_true.1 hgone u hu;cases hr:Z69 st.hp u with
        | none=>rw[hr]at this;cases this
        | some p=>obtain⟨e,ks,r⟩:=p;exact⟨e,ks,r,Z44 hr⟩
       have hvb:∀v∈Zfl (args.flatMap SV.ptrs),(J.getD v (.i 0)).toN=((J++vs).getD v (.i 0)).toN:=by intro v hv;obtain⟨⟨ty,cs,hc⟩,-⟩:=hin v hv;have:=hbh _ hc;simp only[Ent.bd,Bool.and_eq_true,decide_eq_true_eq]at this;rw[hag v this.1]
       have hub:∀u∈gone,J.getD u (.i 0)=(J++vs).getD u (.i 0):=by intro u hu;obtain⟨e,ks,r,hm⟩:=hgrow u hu;have:=hbh _ hm;simp only[Ent.bd,Bool.and_eq_true,decide_eq_true_eq]at this;rw[hag u this.1]
       have hm':Mod (((Zfl (args.flatMap SV.ptrs)).map λv=>((J++vs).getD v (.i 0)).toN)++Z6s J gone) w w1:=by rw[<- List.map_congr_left hvb];exact hm
       have hr1:=hi1.rel.sublist (hp':=Z5m st.hp gone) List.filter_sublist;have hgs:∀k∈Z6s J gone,(C.B.w0.heap.size<=k\/k∈C.B.fp)/\∀e∈Z5m st.hp gone,¬e.fp (J++vs) k:=by
        intro k hk;simp only[Z6s,List.mem_flatMap,Option.mem_toList]at hk;obtain⟨u,hu,hk⟩:=hk;obtain⟨e,ks,r,hmr⟩:=hgrow u hu;have hfp:(Ent.row u e ks r).fp (J++vs) k:=by
         show((J++vs).getD u (.i 0)).toV.ownBlock=some k
         rw[<- hub u hu];exact hk
        refine⟨hi1.rel.own _ hmr rfl k hfp,λe' he' hk'=>?_⟩;simp only[Z5m,List.mem_filter]at he';refine hi1.rel.disj hmr he'.1 (λh=>?_) (.inl rfl) hfp hk';rw[<- h]at he';simp[Zqh,hu]at he'
       have hr2:=hr1.setAll hm' hgs (λv hv=>by obtain⟨⟨ty,cs,hc⟩,h2⟩:=hin v hv;exact⟨⟨ty,cs,by simp only[Z5m,List.mem_filter];exact⟨hc,rfl⟩⟩,h2⟩) hms
       have hr3:=hi1.rel.appendNew (gs:=Z6s J gone) hr2 (λk hk=>⟨(hgs k hk).1,λe he hk'=>by
        simp only[setAll,List.mem_map]at he;obtain⟨x,hx,rfl⟩:=he;obtain⟨-,h2,-⟩:=Z2w (J:=J++vs) ms x;exact(hgs k hk).2 x hx ((h2 k).1 hk')⟩) (λe he=>by
        simp only[setAll,List.mem_map]at he;obtain⟨x,hx,rfl⟩:=he;obtain⟨h1,h2,-⟩:=Z2w (J:=J++vs) ms x;exact⟨x,(List.mem_filter.1 hx).1,h1,λk hk=>(h2 k).1 hk⟩) (es++news) (λx hx=>by
        obtain⟨h1,h2⟩:=hesh x hx;refine⟨h1,λk hk=>?_⟩;rcases h2 k hk with h3|⟨h3,y,hy,hyw,hyk⟩|h3
        ·exact .inl h3
        ·exact .inr (.inl ⟨h3,y,hy,hyw,(Ent.fp_bd hag y (hbh y hy) k).1 hyk⟩)
        ·exact .inr (.inr h3)) hap
       have hi2:Inv C { st with n:=n2,hp:=(es++news)++setAll (Z5m st.hp gone) ms } (J++vs) a w1:=⟨hi1.len,hi1.size,hi1.fr,hi1.bdf,hbd,hi1.defers,hr3⟩
       refine hk _ _ _ _ (by exact hput _ _) (List.prefix_append J vs) hg (hi2.put _ ?_);rcases Z30 hres with⟨x,rfl⟩|⟨x,rfl⟩<;>rfl
      ·exact hg.elim
    ·exact hg.elim
theorem Zl5{t:Nat}{i:TI}(hT:TIok C.P t i):(Instr.alloc t true (.tuple #[])).run C.P w=.ok (.pointer (some ⟨w.heap.size,0,none⟩)) (w.alloc (.cells (i.zs.map (Sc.ev J)).toArray t)):=by
 obtain⟨d,inf,z,hd,hinf,-,-,hz,hzc,hzb,-⟩:=hT.ok;have hz0:z.cells=(i.zs.map (Sc.ev J)).toArray:=by apply Array.ext';rw[hzc,Z21 (J:=[]) (J':=J) (n:=0) (λk hk=>by omega) _ hzb]
 have e1:(zeroValue t).run C.P w=.ok z w:=by simp[go_sem,zeroValue,typeInfo,hinf,hz]
 unfold Instr.alloc;rw[Sem.run_bind,e1];simp only[Result.andThen_ok,newVar,newRow,hz0];simp[go_sem]
theorem Z8n{P:Program}{t:Nat}{inf:TypeInfo}{ad:Addr}{v:Value}{arr:Array Value}(hinf:P.info? t=some inf)(hv:v.cells=arr)(hs:arr.size=inf.size) : (storeVar t ad v).run P w=(storeCells ad arr.toList).run P w:=by unfold storeVar;rw[hv];simp[go_sem,sizeOf,typeInfo,hinf,hs]
theorem Inv.newCells(hi:Inv C st J a w){t:Nat}{cs:List Sc}(hb:cs.all (Sc.bd st.n)=true) : Inv C { st with n:=st.n+1,hp:=.cells st.n t cs::st.hp } (J++[.n w.heap.size]) a (w.alloc (.cells (cs.map (Sc.ev J)).toArray t)):=by
 have hi1:=ext0 hi (n:=st.n+1) [.n w.heap.size] (by simp) (by omega);have hag:Z11 st.n J (J++[.n w.heap.size]):=by rw[<- hi.len];exact Z11.app J _
 have hat:(J++[V.n w.heap.size]).getD st.n (.i 0)=.n w.heap.size:=by rw[<- hi.len];simp[qy1]
 have hh:(Ent.cells st.n t cs).holds (J++[.n w.heap.size]) (w.alloc (.cells (cs.map (Sc.ev J)).toArray t)):=by
  simp only[Ent.holds,hat,V.toN_n,<- Z21 hag cs hb]
  show(w.heap.push _)[w.heap.size]?=_
  simp
 refine⟨hi1.len,hi1.size,hi1.fr,hi1.bdf,?_,hi1.defers,?_⟩
 ·simp only[List.all_cons,Bool.and_eq_true];refine⟨?_,hi1.bdh⟩;simp only[Ent.bd,Bool.and_eq_true,decide_eq_true_eq];exact⟨by omega,Z1j (by omega) cs hb⟩
 ·refine(hi1.rel.alloc _).cons hh (λ_ k hk=>?_) (λe he _ k hk hk'=>?_)
  ·simp only[Ent.fp,hat,V.toN_n]at hk;subst hk;exact .inl hi.rel.mod.size
  ·simp only[Ent.fp,hat,V.toN_n]at hk;subst hk;have:=Ent.bound (hi1.rel.holds e he) hk';omega
theorem Inv.ptr{n:Nat}(hl:J.length=n)(b off:Nat):SV.rel (J++[.n b]) (.cv (false,[.ptr n off])) (.pointer (some ⟨b,off,none⟩)):=by subst hl;simp[SV.rel,SV.ev,CV.ev,Sc.ev,qy1]
theorem Zfo{t v ty off:Nat}{i:TI}{g:Bool}{cs old:List Sc}(hT:TIok C.P t i)(hh:(Ent.cells v ty old).holds J w)(hlen:cs.length=i.ks.length)(hg:g=true\/cs.length=1) (hle:off+cs.length<=old.length) : (Instr.storeAt t (.pointer (some ⟨(J.getD v (.i 0)).toN,off,none⟩)) (CV.ev J (g,cs))).run C.P w = .ok () (w.setRow (J.getD v (.i 0)).toN ((old.take off++cs++old.drop (off+cs.length)).map (Sc.ev J)).toArray):=by
  obtain⟨d,inf,z,hd,hinf,hsz,-⟩:=hT.ok;have hc:=Z97 (J:=J) hg;have hcs:(CV.ev J (g,cs)).cells.size=inf.size:=by rw[<- Array.length_toList,hc,hsz];simpa using hlen
  have h1:=run_storeCells_at (P:=C.P) (J.getD v (.i 0)).toN off ty ((CV.ev J (g,cs)).cells.toList) 0 _ w hh (by rw[hc];simp;omega) (by rw[hc];intro x hx;simp only[List.mem_map]at hx;obtain⟨s,-,rfl⟩:=hx;exact Sc.ev_one J s)
  have e2:=Z8n (P:=C.P) (w:=w) (t:=t) (ad:=⟨(J.getD v (.i 0)).toN,off,none⟩) hinf rfl hcs;have e3:(Instr.sureAddr (.pointer (some ⟨(J.getD v (.i 0)).toN,off,none⟩))).run C.P w=.ok ⟨(J.getD v (.i 0)).toN,off,none⟩ w:=by simp[Instr.sureAddr,go_sem]
  unfold Instr.storeAt;rw[Sem.run_bind,e3];simp only[Result.andThen_ok];rw[e2,h1,hc];simp[List.map_take,List.map_drop]
theorem Zrj{s:SV}{x:Sc}(h:scOf s=some x):s.ev J=x.ev J:=by unfold scOf at h;split at h<;>simp at h;subst h;rfl
theorem Zh4:∀{l:List SV} {r:List Sc},Ziz l=some r->l.map (SV.ev J)=r.map (Sc.ev J):=by
 intro l;induction l with
 | nil=>intro r h;simp[Ziz]at h;subst h;rfl
 | cons s l ih =>
  intro r h;simp only[Ziz,Option.bind_eq_bind,Option.bind_eq_some_iff,Option.some.injEq]at h;obtain⟨x,hx,y,hy,rfl⟩:=h;simp[Zrj (J:=J) hx,ih hy]
theorem Mod.setRow{fp:List Nat}(w:World)(g:Nat)(cs:Array Value)(h:g∈fp):Mod fp w (w.setRow g cs) :=
 ⟨rfl,rfl,rfl,by simp,λk _ hn=>setRow_other w g k cs (λe=>hn (e▸h))⟩
theorem Zdv{o:Oper}{x:Operand}{k:St->Tree}{K:Act->World->Prop}{Q:Exit->Act->World->Prop} (hi:Inv C st J a w) (hk:∀st' J' a' w',st'.d=st.d->J <+: J'->(k st').goal C J' L->Inv C st' J' a' w'->K a' w') (hg:(Zkw o st x k).goal C J L):o.upon C.P a K Q ((pure (Next.value (a.eval x)):Sem Next).run C.P w):=by
 have hput:∀(st:St) (s:SV),(st.put o.dst s).d=st.d:=by intro st s;cases ho':o.dst<;>rfl
 simp only[Sem.run_pure,Oper.upon];unfold Zkw at hg;split at hg
 ·rename_i t;have hrel:=hi.fr t;split at hg
  ·rename_i l hs;rw[hs]at hrel;exact hk _ _ _ _ (by exact hput _ _) List.prefix_rfl hg (hi.put _ hrel)
  ·rename_i f a' b' hs;rw[hs]at hrel;exact hk _ _ _ _ (by exact hput _ _) List.prefix_rfl hg (hi.put _ hrel)
  ·exact hg.elim
 ·exact hk _ _ _ _ (by exact hput _ _) List.prefix_rfl hg (hi.put _ rfl)
 ·exact hg.elim
theorem Zok(hE:EnvOK C.P E){o:Oper}{k:St->Tree}{K:Act->World->Prop}{Q:Exit->Act->World->Prop} (hi:Inv C st J a w) (hk:∀st' J' a' w',st'.d=st.d->J <+: J'->(k st').goal C J' L->Inv C st' J' a' w'->K a' w') (hg:(Zre E o st k).goal C J L):o.wp C.P a w K Q:=by
  have hput:∀(st:St) (s:SV),(st.put o.dst s).d=st.d:=by intro st s;cases ho':o.dst<;>rfl
  have hT:(X.ev J (.B true)).toB=true:=rfl;unfold Zre at hg;unfold Oper.wp execOp;split at hg
  .
    rename_i t i hop;simp only[hop];have hrel:=hi.fr t;split at hg
    . rename_i l hs;rw[hs]at hrel;have hrel:a.eval (.tmp t)=.tuple (l.map (CV.ev J)).toArray:=hrel;split at hg
      . rename_i c hc;rw[hrel];simp only[Instr.extract,List.getElem?_toArray,List.getElem?_map,hc,Option.map_some];simp only[go_sem,Sem.run_bind,Sem.run_pure,Result.andThen_ok,Oper.upon];exact hk _ _ _ _ (by exact hput _ _) List.prefix_rfl hg (hi.put _ rfl)
      . exact hg.elim
    . exact hg.elim
  .
    rename_i x hop;simp only[hop];exact Zdv hi hk hg
  .
    rename_i x hop;simp only[hop];exact Zdv hi hk hg
  .
    rename_i t hop;simp only[hop];split at hg
    . rename_i i hti;have hTI:=hE.tab.get hti;obtain⟨-,-,-,-,-,-,-,-,-,hzb,-⟩:=hTI.ok;simp only[Sem.run_bind,Zl5 (J:=J) hTI,Result.andThen_ok,Sem.run_pure,Oper.upon];have h1:=hi.newCells (t:=t) (Z1j (Nat.zero_le _) _ hzb);exact hk _ _ _ _ (by exact hput _ _) (List.prefix_append J _) (hg w.heap.size) (h1.put _ (Inv.ptr hi.len _ _))
    . exact hg.elim
  .
    rename_i t x hop;simp only[hop];split at hg
    . rename_i g cs hx;split at hg
      . rename_i hcond;obtain⟨h1,h2⟩:=hcond;have hx:=hi.rd_ok hT hx;have hcells:(CV.ev J (g,cs)).cells=(cs.map (Sc.ev J)).toArray:=by
          apply Array.ext';rw[Z97 h1]
        have e1:(Instr.box t (a.eval x)).run C.P w=.ok (.pointer (some ⟨w.heap.size,0,none⟩)) (w.alloc (.cells (cs.map (Sc.ev J)).toArray t)):=by simp only[Instr.box,newVar,newRow,hx,hcells];simp[go_sem]
        simp only[Sem.run_bind,e1,Result.andThen_ok,Sem.run_pure,Oper.upon];have h3:=hi.newCells (t:=t) h2;exact hk _ _ _ _ (by exact hput _ _) (List.prefix_append J _) (hg w.heap.size) (h3.put _ (Inv.ptr hi.len _ _))
      . exact hg.elim
    . exact hg.elim
  .
    rename_i t ad x hop;simp only[hop];split at hg
    . rename_i v off g cs i had hx hti;split at hg
      . rename_i ty old hc;split at hg
        . rename_i hcond;obtain⟨h1,h2,h3,h4⟩:=hcond;have hx:=hi.rd_ok hT hx;have had:=hi.rd_ok hT had;simp only[CV.ev,Sc.ev]at had;have hmem:=Z2h hc;have hh:=hi.rel.holds _ hmem;have e1:=Zfo (C:=C) (w:=w) (g:=g) (hE.tab.get hti) hh h1 h2 h3;simp only[had,hx,Sem.run_bind,e1,Result.andThen_ok,Sem.run_pure,Oper.upon];have hob:=List.all_eq_true.1 hi.bdh _ hmem;simp only[Ent.bd,Bool.and_eq_true]at hob;have hbn:(old.take off++cs++old.drop (off+cs.length)).all (Sc.bd st.n)=true:=by
            rw[List.all_eq_true]at *;intro y hy;simp only[qy13]at hy;rcases hy with(hy|hy)|hy
            . exact hob.2 y (List.mem_of_mem_take hy)
            . exact h4 y hy
            . exact hob.2 y (List.mem_of_mem_drop hy)
          have hr:=hi.rel.update (ty:=ty) (cs:=old.take off++cs++old.drop (off+cs.length)) hmem (Mod.setRow w _ _ (qy12.2 rfl)) (by simp only[Ent.holds];exact setRow_heap w _ _ _ _ _ hh)
          have hi2:=hi.heap (Zfn hi.bdh hbn) hr;exact hk _ _ _ _ (by exact hput _ _) List.prefix_rfl hg (hi2.put _ rfl)
        . exact hg.elim
      . exact hg.elim
    . exact hg.elim
  .
    rename_i f first caps hop
    simp only[hop];split at hg
    . rename_i l1 l2 h1 h2;simp only[Option.bind_eq_some_iff]at h1 h2;obtain⟨r1,h1,h1'⟩:=h1;obtain⟨r2,h2,h2'⟩:=h2;have e1:=hi.rdAll_ok hT h1;have e2:=hi.rdAll_ok hT h2;rw[Zh4 h1']at e1;rw[Zh4 h2']at e2;have m1:first.map a.eval=(l1.map (Sc.ev J)).toArray:=by apply Array.ext';simpa using e1
      have m2:caps.map a.eval=(l2.map (Sc.ev J)).toArray:=by apply Array.ext';simpa using e2
      simp only[Instr.makeFunc,m1,m2,Sem.run_bind,Sem.run_pure,Result.andThen_ok,Oper.upon];exact hk _ _ _ _ (by exact hput _ _) List.prefix_rfl hg (hi.put _ rfl)
    . exact hg.elim
  . exact hg.elim
