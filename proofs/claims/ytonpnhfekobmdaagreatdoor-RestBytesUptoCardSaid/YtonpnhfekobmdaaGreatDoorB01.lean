/- By an AI agent. -/
import Derived.WalkKit
import Derived.WalkSpells
import Derived.WalkLawsBesides
set_option linter.all false
set_option maxHeartbeats 20000000
namespace Go.Sx
section
universe u v
variable {α:Type u} {β:Type v}
theorem _root_.qF{b c:α}{a:Option α}(h:a=some b)(e:b=c):a=some c:=by rw[h,e]
theorem qy1{l:List α}{i:Nat}{a:α}:l.getD i a=l[i]?.getD a:=List.getD_eq_getElem?_getD
theorem qy2{p:α->Prop}{a:α}{l:List α}:(∀(x:α),x∈a::l->p x)↔p a/\∀(x:α),x∈l->p x:=List.forall_mem_cons
theorem qy3{as:List α}(f:α->β):(List.map f as).length=as.length:=List.length_map f
theorem qy4(n:Nat):((n:Nat):Int).toNat=n:=rfl
theorem qy5(p:α->Prop)(x:α):x∈[]->p x:=List.forall_mem_nil p x
theorem qy6{l:List α}{i:Nat}{a:α}:l[i]?=some a->a∈l:=List.mem_of_getElem?
theorem qy7{l:List α}{i:Nat}(h:i<l.length):l[i]?=some l[i]:=List.getElem?_eq_getElem h
theorem qy8{a:α}{l:List α}:a∈a::l:=List.mem_cons_self
theorem qy9{a:Prop}:¬¬a↔a:=Classical.not_not
theorem qy10(y:α){a:α}{l:List α}:a∈l->a∈y::l:=List.mem_cons_of_mem y
theorem qy11{as bs:List α}:(as++bs).length=as.length+bs.length:=List.length_append
theorem qy12{a b:α}:a∈[b]↔a=b:=List.mem_singleton
theorem qy13{a:α}{s t:List α}:a∈s++t↔a∈s\/a∈t:=List.mem_append
end
end Go.Sx
namespace Go.Sx
open Go
structure Mod(fp:List Nat)(w w':World):Prop where
 os:w'.os=w.os
 tape:w'.tape=w.tape
 output:w'.output=w.output
 size:w.heap.size<=w'.heap.size
 block:∀k,k<w.heap.size->k ∉ fp->w'.heap[k]?=w.heap[k]?
theorem Mod.refl(fp:List Nat)(w:World):Mod fp w w:=⟨rfl,rfl,rfl,Nat.le_refl _,λ_ _ _=>rfl⟩
theorem Mod.trans{fp fp':List Nat}{a b c:World}(h:Mod fp a b)(h':Mod fp' b c)(hs:∀k,k∈fp'->k∈fp\/a.heap.size<=k):Mod fp a c :=
 ⟨h'.os.trans h.os,h'.tape.trans h.tape,h'.output.trans h.output,Nat.le_trans h.size h'.size,λk hk hn=>by rw[h'.block k (Nat.lt_of_lt_of_le hk h.size) (λhm=>by rcases hs k hm with h1|h1;exact hn h1;omega),h.block k hk hn]⟩
theorem Mod.of_below{w w':World}(h:RowKit.Below w.heap.size w w'):Mod [] w w':=⟨h.os,h.tape,h.output,h.size,λk hk _=>h.block k hk⟩
theorem Mod.alloc(fp:List Nat)(w:World)(o:Obj):Mod fp w (w.alloc o):=⟨rfl,rfl,rfl,by simp,λk hk _=>RowKit.Below.heap_alloc _ _ _ hk⟩
theorem Mod.drew(fp:List Nat)(w:World):Mod fp w w.drew:=⟨rfl,rfl,rfl,Nat.le_refl _,λ_ _ _=>rfl⟩
theorem Mod.setCell{fp:List Nat}(w:World)(a:Addr)(v:Value)(h:a.block∈fp\/w.heap.size<=a.block):Mod fp w (w.setCell a v) :=
 ⟨rfl,rfl,rfl,by simp[World.setCell],λk hk hn=>RowKit.Below.heap_setCell _ _ _ _ (by rintro rfl;rcases h with h|h;exact hn h;omega)⟩
theorem Mod.mono{fp fp':List Nat}{w w':World}(h:Mod fp w w')(hs:∀k,k∈fp->k∈fp'\/w.heap.size<=k):Mod fp' w w' :=
 ⟨h.os,h.tape,h.output,h.size,λk hk hn=>h.block k hk (λhm=>by rcases hs k hm with h1|h1;exact hn h1;omega)⟩
theorem Mod.of_grown{w w':World}{row:Option Nat}{fp:List Nat}(h:w.grownBy w' row)(hr:∀k,row=some k->k∈fp\/w.heap.size<=k):Mod fp w w' :=
 ⟨h.os,h.tape,h.output,h.size,λk hk hn=>h.block k hk (λe=>by rcases hr k e.symm with h1|h1;exact hn h1;omega)⟩
structure Asrt where
 holds:World->Prop
 fp:Nat->Prop
 stable:∀w w',(∀k,fp k->w'.heap[k]?=w.heap[k]?)->holds w->holds w'
 bound:∀w,holds w->∀k,fp k->k<w.heap.size
inductive V
 | i (n:Int)|b (v:Bool)|s (l:List UInt8)|n (k:Nat)|v (x:Value)|r (xs:List (List Value))|l (xs:List Value)|a (A:Asrt)
def V.toI:V->Int | .i z=>z|_=>0
def V.toB:V->Bool | .b z=>z|_=>false
def V.toS:V->List UInt8 | .s z=>z|_=>[]
def V.toN:V->Nat | .n z=>z|_=>0
def V.toV:V->Value | .v z=>z|_=>undef
def V.toR:V->List (List Value) | .r z=>z|_=>[]
def V.toL:V->List Value | .l z=>z|_=>[]
@[simp] theorem V.toI_i (n:Int):(V.i n).toI=n:=rfl
@[simp] theorem V.toB_b (n:Bool):(V.b n).toB=n:=rfl
@[simp] theorem V.toS_s (n:List UInt8):(V.s n).toS=n:=rfl
@[simp] theorem V.toN_n (n:Nat):(V.n n).toN=n:=rfl
@[simp] theorem V.toV_v (n:Value):(V.v n).toV=n:=rfl
@[simp] theorem V.toR_r (n:List (List Value)):(V.r n).toR=n:=rfl
@[simp] theorem V.toL_l (n:List Value):(V.l n).toL=n:=rfl
def Value.gI:Value->Int | .int _ n=>n|_=>0
def Value.gB:Value->Bool | .bool n=>n|_=>false
def Value.gS:Value->List UInt8 | .string s=>s.data.toList|_=>[]
def Z4z(k n:Nat):Value->Value
 | .slice va len cap=>.slice (if cap=n then va else va.map (·.add (n*k))) (len - n) (cap - n)
 | v=>v
def sc1(v:Value):Value:=match v with | .agg _ | .tuple _=>.pointer none|v=>v
def Zw(op:BinOp)(k:IntKind)(x y:Int):Int :=
 let a:=BitVec.ofInt k.bits x
 let b:=BitVec.ofInt k.bits y
 match op with
 | .and=>k.wrap (a &&& b).toNat
 | .or=>k.wrap (a ||| b).toNat
 | .xor=>k.wrap (a ^^^ b).toNat
 | _=>k.wrap (a &&& ~~~b).toNat
inductive X
 | I (n:Int)|B (v:Bool)|S (l:List UInt8)|var (n:Nat)
 | add (x y:X)|sub (x y:X)|mul (x y:X)|quo (x y:X)|rem (x y:X)|min (x y:X)|ediv (x y:X)|emod (x y:X)
 | wrap (k:IntKind) (x:X)|shl (k:IntKind) (x y:X)|shr (k:IntKind) (x y:X)|bits (op:BinOp) (k:IntKind) (x y:X)
 | len (x:X)|at_ (x i:X)|sl (x lo hi:X)|cat (x y:X)|ofR (x:X)
 | lt (x y:X)|le (x y:X)|eqI (x y:X)|eqB (x y:X)|eqS (x y:X)|not (x:X)|and (x y:X)|or (x y:X)|ite (c x y:X)|less (x y:X)
 | rlen (x:X)|rI (x i:X) (c:Nat)|rB (x i:X) (c:Nat)|rS (x i:X) (c:Nat)|rV (x i:X) (c:Nat)
 | rOf (x:X)|nilR|snocR (x y:X)|catR (x y:X)|takeR (x n:X)|dropR (x n:X)
 | nilL|consI (k:IntKind) (x y:X)|consB (x y:X)|consS (x y:X)|consV (x y:X)
 | rRow (x i:X)|nilS|setR (x i y:X)|nilP|ptrX (v off:Nat)|isnil (x:X)|subS (k:Nat) (x lo:X)|clrR (x lo y:X)
 deriving DecidableEq,Repr,Inhabited
def X.ev(J:List V):X->V
 | .I n=>.i n
 | .B v=>.b v
 | .S l=>.s l
 | .var n=>J.getD n (.i 0)
 | .add x y=>.i ((x.ev J).toI+(y.ev J).toI)
 | .sub x y=>.i ((x.ev J).toI - (y.ev J).toI)
 | .mul x y=>.i ((x.ev J).toI*(y.ev J).toI)
 | .quo x y=>.i ((x.ev J).toI.tdiv (y.ev J).toI)
 | .rem x y=>.i ((x.ev J).toI.tmod (y.ev J).toI)
 | .ediv x y=>.i ((x.ev J).toI / (y.ev J).toI)
 | .emod x y=>.i ((x.ev J).toI % (y.ev J).toI)
 | .min x y=>.i (if(y.ev J).toI<(x.ev J).toI then(y.ev J).toI else(x.ev J).toI)
 | .wrap k x=>.i (k.wrap (x.ev J).toI)
 | .shl k x y=>.i (k.wrap ((x.ev J).toI*2 ^ (Nat.min (y.ev J).toI.toNat k.bits)))
 | .shr k x y=>.i ((x.ev J).toI.fdiv (2 ^ (Nat.min (y.ev J).toI.toNat k.bits)))
 | .bits op k x y=>.i (Zw op k (x.ev J).toI (y.ev J).toI)
 | .len x=>.i ((x.ev J).toS.length)
 | .at_ x i=>.i ((((x.ev J).toS.getD (i.ev J).toI.toNat 0).toNat:Nat):Int)
 | .sl x lo hi=>.s (((x.ev J).toS.take (hi.ev J).toI.toNat).drop (lo.ev J).toI.toNat)
 | .cat x y=>.s ((x.ev J).toS++(y.ev J).toS)
 | .ofR x=>.s ((x.ev J).toR.map λr=>UInt8.ofNat (Value.gI (r.getD 0 undef)).toNat)
 | .lt x y=>.b (decide ((x.ev J).toI<(y.ev J).toI))
 | .le x y=>.b (decide ((x.ev J).toI<=(y.ev J).toI))
 | .eqI x y=>.b (decide ((x.ev J).toI=(y.ev J).toI))
 | .eqB x y=>.b (decide ((x.ev J).toB=(y.ev J).toB))
 | .eqS x y=>.b (decide ((x.ev J).toS=(y.ev J).toS))
 | .less x y=>.b (Op.bytesLess (x.ev J).toS (y.ev J).toS)
 | .not x=>.b (!(x.ev J).toB)
 | .and x y=>.b ((x.ev J).toB && (y.ev J).toB)
 | .or x y=>.b ((x.ev J).toB || (y.ev J).toB)
 | .ite c x y=>if(c.ev J).toB then x.ev J else y.ev J
 | .rlen x=>.i ((x.ev J).toR.length)
 | .rI x i c=>.i (Value.gI (((x.ev J).toR.getD (i.ev J).toI.toNat []).getD c undef))
 | .rB x i c=>.b (Value.gB (((x.ev J).toR.getD (i.ev J).toI.toNat []).getD c undef))
 | .rS x i c=>.s (Value.gS (((x.ev J).toR.getD (i.ev J).toI.toNat []).getD c undef))
 | .rV x i c=>.v (((x.ev J).toR.getD (i.ev J).toI.toNat []).getD c undef)
 | .rRow x i=>.l ((x.ev J).toR.getD (i.ev J).toI.toNat [])
 | .rOf x=>.r ((x.ev J).toS.map λb=>[Value.int .u8 (b.toNat:Int)])
 | .nilR=>.r []
 | .snocR x y=>.r ((x.ev J).toR++[(y.ev J).toL])
 | .catR x y=>.r ((x.ev J).toR++(y.ev J).toR)
 | .takeR x n=>.r ((x.ev J).toR.take (n.ev J).toI.toNat)
 | .dropR x n=>.r ((x.ev J).toR.drop (n.ev J).toI.toNat)
 | .nilL=>.l []
 | .consI k x y=>.l (Value.int k (x.ev J).toI::(y.ev J).toL)
 | .consB x y=>.l (Value.bool (x.ev J).toB::(y.ev J).toL)
 | .consS x y=>.l (Value.string ⟨(x.ev J).toS.toArray⟩::(y.ev J).toL)
 | .consV x y=>.l (sc1 (x.ev J).toV::(y.ev J).toL)
 | .nilS=>.v (.slice none 0 0)
 | .nilP=>.v (.pointer none)
 | .ptrX v off=>.v (.pointer (some ⟨(J.getD v (.i 0)).toN,off,none⟩))
 | .isnil x=>.b (match (x.ev J).toV with | .slice none _ _=>true|_=>false)
 | .setR x i y=>.r ((x.ev J).toR.set (i.ev J).toI.toNat (y.ev J).toL)
 | .subS k x lo=>.v (Z4z k (lo.ev J).toI.toNat (x.ev J).toV)
 | .clrR x lo y=>.r ((x.ev J).toR.take (lo.ev J).toI.toNat++List.replicate ((x.ev J).toR.length - (lo.ev J).toI.toNat) (y.ev J).toL)
def X.P(J:List V):X->Prop
 | .B v=>v=true
 | .lt x y=>(x.ev J).toI<(y.ev J).toI
 | .le x y=>(x.ev J).toI<=(y.ev J).toI
 | .eqI x y=>(x.ev J).toI=(y.ev J).toI
 | .eqB x y=>(x.ev J).toB=(y.ev J).toB
 | .eqS x y=>(x.ev J).toS=(y.ev J).toS
 | .not x=>¬X.P J x
 | .and x y=>X.P J x/\X.P J y
 | .or x y=>X.P J x\/X.P J y
 | x=>(x.ev J).toB=true
theorem X.P_iff(J:List V)(x:X):X.P J x↔(x.ev J).toB=true:=by induction x<;>simp_all [X.P,X.ev]
def X.bd(n:Nat):X->Bool
 | .I _ | .B _ | .S _ | .nilR | .nilL | .nilS | .nilP=>true
 | .var k=>decide (k<n)
 | .ptrX k _=>decide (k<n)
 | .isnil x=>x.bd n
 | .add x y | .sub x y | .mul x y | .quo x y | .rem x y | .min x y | .shl _ x y | .shr _ x y | .bits _ _ x y | .at_ x y | .cat x y | .lt x y | .le x y
 | .eqI x y | .eqB x y | .eqS x y | .and x y | .or x y | .less x y | .snocR x y | .catR x y | .takeR x y | .dropR x y | .consI _ x y | .consB x y | .consS x y | .consV x y | .rRow x y=>x.bd n && y.bd n
 | .wrap _ x | .len x | .ofR x | .not x | .rlen x | .rOf x=>x.bd n
 | .sl x y z | .ite x y z | .setR x y z | .clrR x y z=>x.bd n && y.bd n && z.bd n
 | .rI x i _ | .rB x i _ | .rS x i _ | .rV x i _=>x.bd n && i.bd n
 | .ediv x y | .emod x y | .subS _ x y=>x.bd n && y.bd n
theorem X.ev_bd{J J':List V}{n:Nat}(h:∀k,k<n->J.getD k (.i 0)=J'.getD k (.i 0))(x:X)(hx:x.bd n=true):x.ev J=x.ev J':=by induction x<;>simp_all [X.bd,X.ev]
inductive Sc
 | int (k:IntKind) (x:X)|bool (x:X)|str (x:X)|val (x:X)|ptr (v off:Nat)|eptr (v esz:Nat) (i:X) (c:Nat)|nilp|nils|nilm
 deriving DecidableEq,Repr,Inhabited
theorem Zr6(v:Value):(sc1 v).oneCell'=true:=by cases v<;>rfl
theorem Zqf(v:Value)(h:v.oneCell'=true):sc1 v=v:=by cases v<;>first|rfl|(simp[Value.oneCell']at h)
@[simp] theorem Z9n (a:Option Addr) (n c:Nat):sc1 (.slice a n c)=.slice a n c:=rfl
def Sc.ev(J:List V):Sc->Value
 | .int k x=>.int k (x.ev J).toI
 | .bool x=>.bool (x.ev J).toB
 | .str x=>.string ⟨(x.ev J).toS.toArray⟩
 | .val x=>sc1 (x.ev J).toV
 | .ptr v off=>.pointer (some ⟨(J.getD v (.i 0)).toN,off,none⟩)
 | .eptr v esz i c=>match (J.getD v (.i 0)).toV with
  | .slice (some a) _ _=>.pointer (some (a.add ((i.ev J).toI.toNat*esz+c)))
  | _=>.pointer none
 | .nilp=>.pointer none
 | .nils=>.slice none 0 0
 | .nilm=>.map none
theorem Sc.ev_one(J:List V)(s:Sc):(s.ev J).oneCell'=true:=by cases s<;>simp only[Sc.ev]<;>first|rfl|exact Zr6 _|(split<;>rfl)
def Sc.bd(n:Nat):Sc->Bool
 | .int _ x | .bool x | .str x | .val x=>x.bd n
 | .ptr v _=>decide (v<n)
 | .eptr v _ i _=>decide (v<n) && i.bd n
 | .nilp | .nils | .nilm=>true
def Z11(n:Nat)(J J':List V):Prop:=∀k,k<n->J.getD k (.i 0)=J'.getD k (.i 0)
theorem Z11.app(J vs:List V):Z11 J.length J (J++vs):=λk hk=>by simp[qy1,List.getElem?_append_left hk]
theorem Z11.symm{n:Nat}{J J':List V}(h:Z11 n J J'):Z11 n J' J:=λk hk=>(h k hk).symm
theorem Z11.trans{n:Nat}{J J' J'':List V}(h:Z11 n J J')(h':Z11 n J' J''):Z11 n J J'':=λk hk=>(h k hk).trans (h' k hk)
theorem Sc.ev_bd{J J':List V}{n:Nat}(h:Z11 n J J')(s:Sc)(hs:s.bd n=true):s.ev J=s.ev J':=by
 cases s<;>simp_all [Sc.bd,Sc.ev]
 case int x=>rw[X.ev_bd h x hs]
 case bool x=>rw[X.ev_bd h x hs]
 case str x=>rw[X.ev_bd h x hs]
 case val x=>rw[X.ev_bd h x hs]
 case ptr v off=>have:=h v hs;simp only[qy1]at this;rw[this]
 case eptr v esz i c=>have:=h v hs.1;simp only[qy1]at this;rw[this,X.ev_bd h i hs.2]
abbrev CV:=Bool×List Sc
def CV.ev(J:List V)(c:CV):Value :=
 match c with
 | (true,cs)=>.agg (cs.map (Sc.ev J)).toArray
 | (false,[s])=>s.ev J
 | _=>undef
def CV.bd(n:Nat)(c:CV):Bool:=c.2.all (Sc.bd n)
theorem Z21{J J':List V}{n:Nat}(h:Z11 n J J')(cs:List Sc)(hs:cs.all (Sc.bd n)=true):cs.map (Sc.ev J)=cs.map (Sc.ev J') :=
 List.map_congr_left λs hm=>Sc.ev_bd h s (List.all_eq_true.1 hs s hm)
theorem CV.ev_bd{J J':List V}{n:Nat}(h:Z11 n J J')(c:CV)(hs:CV.bd n c=true):CV.ev J c=CV.ev J' c:=by
 obtain⟨g,cs⟩:=c;have hm:=Z21 h cs hs;cases g
 ·match cs,hs with
  | [],_=>rfl
  | [s],hs=>simp only[CV.bd,List.all_cons,List.all_nil,Bool.and_true]at hs;exact Sc.ev_bd h s hs
  | _::_::_,_=>rfl
 ·simp only[CV.ev,hm]
inductive SV
 | cv (c:CV)
 | gd (g:X) (c:CV)
 | tup (l:List CV)
 | fn (f:Nat) (first caps:List Sc)
 | dead
 deriving DecidableEq,Repr,Inhabited
def SV.ev(J:List V):SV->Value
 | .cv c=>CV.ev J c
 | .tup l=>.tuple (l.map (CV.ev J)).toArray
 | .fn f first caps=>.func (.func f) (first.map (Sc.ev J)).toArray (caps.map (Sc.ev J)).toArray
 | _=>undef
def SV.bd(n:Nat):SV->Bool
 | .cv c=>CV.bd n c
 | .gd g c=>g.bd n && CV.bd n c
 | .tup l=>l.all (CV.bd n)
 | .fn _ first caps=>first.all (Sc.bd n) && caps.all (Sc.bd n)
 | .dead=>true
def SV.rel(J:List V)(s:SV)(x:Value):Prop :=
 match s with
 | .dead=>True
 | .gd g c=>((g.ev J).toB=true->x=CV.ev J c)/\((g.ev J).toB=false->x=undef)
 | s=>x=s.ev J
theorem SV.rel_bd{J J':List V}{n:Nat}(h:Z11 n J J')(s:SV)(hs:s.bd n=true)(x:Value)(hr:s.rel J x):s.rel J' x:=by
 cases s with
 | cv c=>exact(hr:x=_).trans (CV.ev_bd h c hs)
 | gd g c =>
  simp only[SV.bd,Bool.and_eq_true]at hs;obtain⟨h1,h2⟩:=hr;exact⟨λhg=>(h1 (by rw[X.ev_bd h g hs.1];exact hg)).trans (CV.ev_bd h c hs.2),λhg=>h2 (by rw[X.ev_bd h g hs.1];exact hg)⟩
 | tup l =>
  refine(hr:x=_).trans ?_;simp only[SV.ev,SV.bd]at hs⊢;rw[List.map_congr_left λc hm=>CV.ev_bd h c (List.all_eq_true.1 hs c hm)]
 | fn f a b =>
  refine(hr:x=_).trans ?_;simp only[SV.ev,SV.bd,Bool.and_eq_true]at hs⊢;rw[Z21 h a hs.1,Z21 h b hs.2]
 | dead=>trivial
inductive Kd
 | int (k:IntKind)|bool|str|sl (e:Nat)|oth
 deriving DecidableEq,Repr,Inhabited
def Kd.ok(k:Kd)(v:Value):Prop :=
 match k with
 | .int k=>∃n,v=.int k n
 | .bool=>∃b,v=.bool b
 | .str=>∃l:List UInt8,v=.string ⟨l.toArray⟩
 | _=>v.oneCell'=true
def rowOk:List Kd->List Value->Prop
 | [],[]=>True
 | k::ks,v::vs=>k.ok v/\rowOk ks vs
 | _,_=>False
theorem rowOk.length:∀{ks:List Kd} {vs:List Value},rowOk ks vs->vs.length=ks.length
 | [],[],_=>rfl
 | _::_,_::_,h=>by simp[rowOk.length h.2]
theorem rowOk.get:∀{ks:List Kd} {vs:List Value},rowOk ks vs->∀{c:Nat} {k:Kd},ks[c]?=some k->∃v,vs[c]?=some v/\k.ok v
 | k::ks,v::vs,h,0,k',hk=>by simp at hk;subst hk;exact⟨v,rfl,h.1⟩
 | k::ks,v::vs,h,c+1,k',hk=>by simpa using h.2.get (by simpa using hk)
theorem Kd.ok.one{k:Kd}{v:Value}(h:k.ok v):v.oneCell'=true:=by cases k<;>simp only[Kd.ok]at h<;>first|exact h|(obtain⟨_,rfl⟩:=h;rfl)
theorem rowOk.one:∀{ks:List Kd} {vs:List Value},rowOk ks vs->∀v∈vs,v.oneCell'=true
 | [],[],_,v,hv=>by simp at hv
 | k::ks,u::vs,h,v,hv=>by
  rcases List.mem_cons.1 hv with rfl|hv
  ·exact h.1.one
  ·exact h.2.one v hv
def reads(w:World)(v:Value)(ks:List Kd)(rows:List (List Value)):Prop :=
 (∀r∈rows,rowOk ks r)/\∃a cap,v=.slice a rows.length cap/\((a=none->cap=0)/\rows.length<=cap) /\
  (rows≠[]->∃ad,a=some ad/\∀j u,rows.flatten[j]?=some u->w.cell? (ad.add j)=some u)
def owns(w:World)(v:Value)(ty:Nat)(ks:List Kd)(rows:List (List Value)):Prop :=
 (∀r∈rows,rowOk ks r)/\w.ownsRow 0 ty ks.length v rows.length rows.flatten
def Z3(v:Value)(k:Nat):Prop:=v.ownBlock=some k
theorem Z4d{rows:List (List Value)}{n:Nat}(h:∀r∈rows,r.length=n){i c:Nat}(hc:c<n):rows.flatten[i*n+c]?=(rows[i]?).bind (·[c]?):=by
 induction rows generalizing i with
 | nil=>simp
 | cons r rows ih =>
  have hr:=h r (by simp);cases i with
  | zero=>simp[List.getElem?_append_left (show c<r.length by omega)]
  | succ i =>
   rw[List.flatten_cons,List.getElem?_append_right (by rw[hr,Nat.succ_mul];omega)];have:(i+1)*n+c - r.length=i*n+c:=by rw[hr,Nat.succ_mul];omega
   rw[this,ih λr hm=>h r (by simp[hm])];simp
theorem Zj{rows:List (List Value)}{n:Nat}(h:∀r∈rows,r.length=n):rows.flatten.length=rows.length*n:=by
 induction rows with
 | nil=>simp
 | cons r rows ih=>simp[ih λr hm=>h r (by simp[hm]),h r (by simp),Nat.succ_mul];omega
theorem owns.reads{w:World}{v:Value}{ty:Nat}{ks:List Kd}{rows:List (List Value)}(h:owns w v ty ks rows):reads w v ks rows:=by
 obtain⟨h1,h2⟩:=h;refine⟨h1,?_⟩;have h2':=h2;rcases h2'.2 with⟨rfl,hn⟩|⟨g,cap,cur,rfl,-,-,hnc,-,-,-⟩
 ·exact⟨none,0,by rw[hn],⟨λ_=>rfl,by omega⟩,λhne=>absurd (List.eq_nil_of_length_eq_zero hn) hne⟩
 ·exact⟨some ⟨g,0,none⟩,cap,rfl,⟨(λh=>by cases h),hnc⟩,λ_=>⟨_,rfl,λj u hu=>h2.cells (g:=g) rfl j u hu⟩⟩
theorem reads.get{w:World}{v:Value}{ks:List Kd}{rows:List (List Value)}(h:reads w v ks rows){i c:Nat}(hi:i<rows.length)(hc:c<ks.length) : ∃ad cap,v=.slice (some ad) rows.length cap/\w.cell? (ad.add (i*ks.length+c))=some ((rows.getD i []).getD c undef)/\ks[c].ok ((rows.getD i []).getD c undef):=by
 obtain⟨h1,a,cap,rfl,-,h2⟩:=h;obtain⟨ad,rfl,h3⟩:=h2 (λe=>by subst e;simp at hi);have hr:=h1 rows[i] (List.getElem_mem hi);obtain⟨u,hu,hk⟩:=hr.get (qy7 hc);have e:(rows.getD i []).getD c undef=u:=by simp[qy1,qy7 hi,hu]
 rw[e];refine⟨ad,cap,rfl,h3 _ _ ?_,hk⟩;rw[Z4d (λr hm=>(h1 r hm).length) hc,qy7 hi];exact hu
inductive Ent
 | cells (v ty:Nat) (cs:List Sc)
 | row (v ty:Nat) (ks:List Kd) (r:X)
 | rd (v:Nat) (ks:List Kd) (r:X)
 | st (v:Nat)
 deriving DecidableEq,Repr,Inhabited
def Ent.wr:Ent->Bool
 | .cells .. | .row ..=>true
 | _=>false
def Ent.bd(n:Nat):Ent->Bool
 | .cells v _ cs=>decide (v<n) && cs.all (Sc.bd n)
 | .row v _ _ r=>decide (v<n) && r.bd n
 | .rd v _ r=>decide (v<n) && r.bd n
 | .st v=>decide (v<n)
def Ent.holds(J:List V)(w:World):Ent->Prop
 | .cells v ty cs=>w.heap[(J.getD v (.i 0)).toN]?=some (.cells (cs.map (Sc.ev J)).toArray ty (0,0))
 | .row v ty ks r=>owns w (J.getD v (.i 0)).toV ty ks (r.ev J).toR
 | .rd v ks r=>reads w (J.getD v (.i 0)).toV ks (r.ev J).toR
 | .st v=>match J.getD v (.i 0)with | .a A=>A.holds w|_=>True
def Ent.fp(J:List V)(k:Nat):Ent->Prop
 | .cells v _ _=>k=(J.getD v (.i 0)).toN
 | .row v _ _ _=>Z3 (J.getD v (.i 0)).toV k
 | .rd v _ r=>(r.ev J).toR.flatten≠[]/\Z3 (J.getD v (.i 0)).toV k
 | .st v=>match J.getD v (.i 0)with | .a A=>A.fp k|_=>False
theorem Ent.holds_bd{J J':List V}{n:Nat}(h:Z11 n J J')(e:Ent)(he:e.bd n=true)(w:World):e.holds J w↔e.holds J' w:=by
 cases e<;>simp only[Ent.bd,Bool.and_eq_true,decide_eq_true_eq]at he<;>simp only[Ent.holds]
 case cells v ty cs=>rw[h v he.1,Z21 h cs he.2]
 case row v ty ks r=>rw[h v he.1,X.ev_bd h r he.2]
 case rd v ks r=>rw[h v he.1,X.ev_bd h r he.2]
 case st v=>rw[h v he]
theorem Ent.fp_bd{J J':List V}{n:Nat}(h:Z11 n J J')(e:Ent)(he:e.bd n=true)(k:Nat):e.fp J k↔e.fp J' k:=by
 cases e<;>simp only[Ent.bd,Bool.and_eq_true,decide_eq_true_eq]at he<;>simp only[Ent.fp]
 case cells v ty cs=>rw[h v he.1]
 case row v ty ks r=>rw[h v he.1]
 case rd v ks r=>rw[h v he.1,X.ev_bd h r he.2]
 case st v=>rw[h v he]
theorem Addr.add_block(a:Addr)(j:Nat):(a.add j).block=a.block:=by unfold Addr.add;split<;>rfl
theorem reads.stable{w w':World}{v:Value}{ks:List Kd}{rows:List (List Value)}(h:reads w v ks rows) (hk:∀k,(rows.flatten≠[]/\Z3 v k)->w'.heap[k]?=w.heap[k]?):reads w' v ks rows:=by obtain⟨h1,a,cap,rfl,h0,h2⟩:=h;refine⟨h1,a,cap,rfl,h0,λhne=>?_⟩;obtain⟨ad,rfl,h3⟩:=h2 hne;refine⟨ad,rfl,λj u hu=>?_⟩;rw[<- h3 j u hu];refine World.cell?_of_block ?_;rw[Addr.add_block];exact hk _ ⟨λe=>by rw[e]at hu;simp at hu,rfl⟩
theorem owns.stable{w w':World}{v:Value}{ty:Nat}{ks:List Kd}{rows:List (List Value)}(h:owns w v ty ks rows) (hk:∀k,Z3 v k->w'.heap[k]?=w.heap[k]?):owns w' v ty ks rows:=by
 obtain⟨h1,h2,h3⟩:=h;refine⟨h1,h2,?_⟩;rcases h3 with h3|⟨g,cap,cur,rfl,hb,hg,rest⟩
 ·exact .inl h3
 ·exact .inr ⟨g,cap,cur,rfl,hb,by rw[hk g rfl];exact hg,rest⟩
theorem Ent.stable{J:List V}{w w':World}{e:Ent}(h:e.holds J w)(hk:∀k,e.fp J k->w'.heap[k]?=w.heap[k]?):e.holds J w':=by
 cases e with
 | cells v ty cs=>exact(hk _ rfl).trans h
 | row v ty ks r=>exact owns.stable h hk
 | rd v ks r=>exact reads.stable h hk
 | st v =>
  simp only[Ent.holds]at h⊢;simp only[Ent.fp]at hk;generalize J.getD v (.i 0)=x at h hk⊢
  cases x<;>first|trivial|exact Asrt.stable _ _ _ hk h
theorem Ent.bound{J:List V}{w:World}{e:Ent}(h:e.holds J w){k:Nat}(hk:e.fp J k):k<w.heap.size:=by
 cases e with
 | cells v ty cs=>simp only[Ent.fp]at hk;subst hk;exact(Array.getElem?_eq_some_iff.1 h).1
 | row v ty ks r=>exact(h.2.lt k hk).2
 | rd v ks r =>
  obtain⟨h1,a,cap,hv,-,h2⟩:=h;obtain⟨hne,hb⟩:=hk;obtain⟨ad,rfl,h3⟩:=h2 (λe=>by rw[e]at hne;simp at hne);obtain⟨u,l,hl⟩:=List.exists_cons_of_ne_nil hne;have:=h3 0 u (by rw[hl];rfl);have:=World.block_lt_of_cell? w _ this;rw[Addr.add_block]at this;unfold Z3 at hb;rw[hv]at hb;simp[Value.ownBlock]at hb;omega
 | st v =>
  simp only[Ent.holds]at h;simp only[Ent.fp]at hk;generalize J.getD v (.i 0)=x at h hk
  cases x<;>first|exact hk.elim|exact Asrt.bound _ _ h k hk
theorem X.bd_mono{n m:Nat}(h:n<=m)(x:X)(hx:x.bd n=true):x.bd m=true:=by induction x<;>simp_all [X.bd]<;>omega
theorem Sc.bd_mono{n m:Nat}(h:n<=m)(s:Sc)(hs:s.bd n=true):s.bd m=true:=by cases s<;>simp only[Sc.bd,Bool.and_eq_true,decide_eq_true_eq]at hs⊢<;>first|exact X.bd_mono h _ hs|omega|exact⟨by omega,X.bd_mono h _ hs.2⟩
theorem Z1j{n m:Nat}(h:n<=m)(cs:List Sc)(hs:cs.all (Sc.bd n)=true):cs.all (Sc.bd m)=true :=
 List.all_eq_true.2 λs hm=>Sc.bd_mono h s (List.all_eq_true.1 hs s hm)
theorem SV.bd_mono{n m:Nat}(h:n<=m)(s:SV)(hs:s.bd n=true):s.bd m=true:=by
 cases s with
 | cv c=>exact Z1j h _ hs
 | gd g c=>simp only[SV.bd,Bool.and_eq_true]at hs⊢;exact⟨X.bd_mono h _ hs.1,Z1j h _ hs.2⟩
 | tup l=>exact List.all_eq_true.2 λc hm=>Z1j h _ (List.all_eq_true.1 hs c hm)
 | fn f a b=>simp only[SV.bd,Bool.and_eq_true]at hs⊢;exact⟨Z1j h _ hs.1,Z1j h _ hs.2⟩
 | dead=>rfl
theorem Ent.bd_mono{n m:Nat}(h:n<=m)(e:Ent)(he:e.bd n=true):e.bd m=true:=by cases e<;>simp only[Ent.bd,Bool.and_eq_true,decide_eq_true_eq]at he⊢<;>first|omega|exact⟨by omega,Z1j h _ he.2⟩|exact⟨by omega,X.bd_mono h _ he.2⟩
structure Base where
 fp:List Nat
 w0:World
def Zv(J:List V)(hp:List Ent):Prop:=hp.Pairwise λe e'=>(e.wr=true\/e'.wr=true)->∀k,e.fp J k->e'.fp J k->False
structure Rel(B:Base)(J:List V)(hp:List Ent)(w:World):Prop where
 mod:Mod B.fp B.w0 w
 holds:∀e∈hp,e.holds J w
 own:∀e∈hp,e.wr=true->∀k,e.fp J k->B.w0.heap.size<=k\/k∈B.fp
 sep:Zv J hp
theorem Rel.ext{B:Base}{J J':List V}{hp:List Ent}{w:World}{n:Nat}(h:Rel B J hp w)(ha:Z11 n J J')(hb:hp.all (Ent.bd n)=true):Rel B J' hp w:=by have hb':=List.all_eq_true.1 hb;refine⟨h.mod,λe he=>(Ent.holds_bd ha e (hb' e he) w).1 (h.holds e he),λe he hw k hk=>h.own e he hw k ((Ent.fp_bd ha e (hb' e he) k).2 hk),?_⟩;refine List.Pairwise.imp_of_mem (λ{a b} hma hmb hp hw k h1 h2=>?_) h.sep;exact hp hw k ((Ent.fp_bd ha a (hb' a hma) k).2 h1) ((Ent.fp_bd ha b (hb' b hmb) k).2 h2)
theorem Rel.sublist{B:Base}{J:List V}{hp hp':List Ent}{w:World}(h:Rel B J hp w)(hs:hp'.Sublist hp):Rel B J hp' w :=
 ⟨h.mod,λe he=>h.holds e (hs.subset he),λe he=>h.own e (hs.subset he),h.sep.sublist hs⟩
theorem Rel.perm{B:Base}{J:List V}{hp hp':List Ent}{w:World}(h:Rel B J hp w)(hs:hp.Perm hp'):Rel B J hp' w :=
  ⟨h.mod,λe he=>h.holds e (hs.symm.subset he),λe he=>h.own e (hs.symm.subset he),
   (hs.pairwise_iff (λ{x y} hxy hw k hk hk'=>hxy hw.symm k hk' hk)).1 h.sep⟩
theorem Rel.step{B:Base}{J:List V}{hp:List Ent}{w w':World}{fp:List Nat}(h:Rel B J hp w)(hm:Mod fp w w') (hf:∀k∈fp,(B.w0.heap.size<=k\/k∈B.fp)) (hd:∀e∈hp,∀k∈fp,¬e.fp J k):Rel B J hp w' :=
  ⟨h.mod.trans hm (λk hk=>by rcases hf k hk with h1|h1;exact .inr h1;exact .inl h1),
   λe he=>Ent.stable (h.holds e he) (λk hk=>hm.block k (Ent.bound (h.holds e he) hk) (λhn=>hd e he k hn hk)),h.own,h.sep⟩
theorem Rel.cons{B:Base}{J:List V}{hp:List Ent}{w:World}{e:Ent}(h:Rel B J hp w)(he:e.holds J w) (ho:e.wr=true->∀k,e.fp J k->B.w0.heap.size<=k\/k∈B.fp) (hd:∀e'∈hp,(e.wr=true\/e'.wr=true)->∀k,e.fp J k->e'.fp J k->False):Rel B J (e::hp) w :=
  ⟨h.mod,λx hx=>by rcases List.mem_cons.1 hx with rfl|hx;exact he;exact h.holds x hx,
   λx hx=>by rcases List.mem_cons.1 hx with rfl|hx;exact ho;exact h.own x hx,List.pairwise_cons.2 ⟨hd,h.sep⟩⟩
theorem Rel.alloc{B:Base}{J:List V}{hp:List Ent}{w:World}(h:Rel B J hp w)(o:Obj):Rel B J hp (w.alloc o) :=
 h.step (Mod.alloc [] w o) (by simp) (by simp)
theorem Rel.drew{B:Base}{J:List V}{hp:List Ent}{w:World}(h:Rel B J hp w):Rel B J hp w.drew :=
 h.step (Mod.drew [] w) (by simp) (by simp)
inductive Tg
 | int (k:IntKind)|bool|str|strct (fl:List (Nat×Nat×Nat×Bool))|slice (e:Nat)|ptr (e:Nat)|tuple (l:List Nat)|other
 deriving DecidableEq,Repr,Inhabited
structure TI where
 agg:Bool
 ks:List Kd
 zs:List Sc
 bytes:Nat
 tag:Tg
 eqs:Bool:=false
 deriving DecidableEq,Repr,Inhabited
def Z1d:TypeDesc->Bool
 | .struct _ | .array _ _=>true
 | _=>false
def Z5u(P:Program):Tg->TypeDesc->Prop
 | .int k,.int k'=>k=k'
 | .bool,.bool=>True
 | .str,.string=>True
 | .strct fl,.struct fs=>fl.length=fs.size/\∀(n:Nat) p,fl[n]?=some p->∃f d i,fs[n]?=some f/\f.offset=p.1/\f.type=p.2.1/\(f.name ≠ "_")/\P.underlying f.type=some d/\P.info? f.type=some i/\i.size=p.2.2.1/\Z1d d=p.2.2.2
 | .slice e,.slice e'=>e=e'
 | .ptr e,.pointer e'=>e=e'
 | .tuple l,.tuple es=>l=es.toList
 | .other,_=>True
 | _,_=>False
structure TIok(P:Program)(t:Nat)(i:TI):Prop where
 ok:∃d inf z,P.underlying t=some d/\P.info? t=some inf/\inf.size=i.ks.length/\inf.bytes=i.bytes/\inf.zero=some z/\z.cells.toList=i.zs.map (Sc.ev [])/\i.zs.all (Sc.bd 0)=true /\
  i.zs.length=i.ks.length/\Z1d d=i.agg/\Z5u P i.tag d/\(i.agg=false->i.zs.length=1)/\z=CV.ev [] (i.agg,i.zs)
 cmp:i.eqs=true->P.stoodInHeld t=false/\P.eqGuardType P.depth t=false
abbrev Tab:=List (Nat×TI)
def Tab.get(T:Tab)(t:Nat):Option TI:=(T.find? λp=>p.1 == t).map (·.2)
def Z9o(P:Program)(T:Tab):Prop:=∀p∈T,TIok P p.1 p.2
theorem Z9o.get{P:Program}{T:Tab}(h:Z9o P T){t:Nat}{i:TI}(hg:T.get t=some i):TIok P t i:=by unfold Tab.get at hg;rw[Option.map_eq_some_iff]at hg;obtain⟨⟨a,b⟩,h1,rfl⟩:=hg;have:=List.find?_some h1;simp at this;subst this;exact h _ (List.mem_of_find?_eq_some h1)
def X.lo:X->Option Int
 | .I n=>some n
 | .at_ _ _=>some 0
 | .len _=>some 0
 | .rlen _=>some 0
 | .add x y=>do pure ((<- x.lo)+(<- y.lo))
 | .emod _ (.I m)=>if 0<m then some 0 else none
 | .wrap .u8 _=>some 0
 | .min x y=>do pure (Min.min (<- x.lo) (<- y.lo))
 | .ite _ x y=>do pure (Min.min (<- x.lo) (<- y.lo))
 | _=>none
def X.hi:X->Option Int
 | .I n=>some n
 | .at_ _ _=>some 255
 | .add x y=>do pure ((<- x.hi)+(<- y.hi))
 | .emod _ (.I m)=>if 0<m then some (m - 1)else none
 | .wrap .u8 _=>some 255
 | .ite _ x y=>do pure (Max.max (<- x.hi) (<- y.hi))
 | _=>none
theorem wrap_u8(n:Int):IntKind.u8.wrap n=n % 256:=by simp[IntKind.wrap,IntKind.signed,IntKind.bits]
theorem X.lo_ok(J:List V):∀(x:X) (n:Int),x.lo=some n->n<=(x.ev J).toI:=by
 intro x;induction x with
 | I m=>intro n h;simp[X.lo]at h;simp[X.ev,h]
 | at_ x i _ _=>intro n h;simp[X.lo]at h;subst h;simp only[X.ev,V.toI_i];omega
 | len x _=>intro n h;simp[X.lo]at h;subst h;simp only[X.ev,V.toI_i];omega
 | rlen x _=>intro n h;simp[X.lo]at h;subst h;simp only[X.ev,V.toI_i];omega
 | add x y hx hy =>
  intro n h;simp only[X.lo,Option.bind_eq_bind,Option.pure_def,Option.bind_eq_some_iff,Option.some.injEq]at h;obtain⟨a,ha,b,hb,rfl⟩:=h;have:=hx a ha;have:=hy b hb;simp only[X.ev,V.toI_i];omega
 | min x y hx hy =>
  intro n h;simp only[X.lo,Option.bind_eq_bind,Option.pure_def,Option.bind_eq_some_iff,Option.some.injEq]at h;obtain⟨a,ha,b,hb,rfl⟩:=h;have:=hx a ha;have:=hy b hb;simp only[X.ev,V.toI_i];split<;>omega
 | ite c x y _ hx hy =>
  intro n h;simp only[X.lo,Option.bind_eq_bind,Option.pure_def,Option.bind_eq_some_iff,Option.some.injEq]at h;obtain⟨a,ha,b,hb,rfl⟩:=h;have:=hx a ha;have:=hy b hb;simp only[X.ev];split<;>omega
 | emod x y _ _ =>
  intro n h;cases y<;>simp[X.lo]at h;obtain⟨h1,rfl⟩:=h;simp only[X.ev,V.toI_i];exact Int.emod_nonneg _ (by omega)
 | wrap k x _ =>
  intro n h;cases k<;>simp[X.lo]at h;subst h;simp only[X.ev,V.toI_i,wrap_u8];omega
 | _=>intro n h;simp[X.lo]at h
theorem X.hi_ok(J:List V):∀(x:X) (n:Int),x.hi=some n->(x.ev J).toI<=n:=by
 intro x;induction x with
 | I m=>intro n h;simp[X.hi]at h;simp[X.ev,h]
 | at_ x i _ _ =>
  intro n h;simp[X.hi]at h;subst h;simp only[X.ev,V.toI_i];have:=((x.ev J).toS.getD (i.ev J).toI.toNat 0).toNat_lt;omega
 | add x y hx hy =>
  intro n h;simp only[X.hi,Option.bind_eq_bind,Option.pure_def,Option.bind_eq_some_iff,Option.some.injEq]at h;obtain⟨a,ha,b,hb,rfl⟩:=h;have:=hx a ha;have:=hy b hb;simp only[X.ev,V.toI_i];omega
 | ite c x y _ hx hy =>
  intro n h;simp only[X.hi,Option.bind_eq_bind,Option.pure_def,Option.bind_eq_some_iff,Option.some.injEq]at h;obtain⟨a,ha,b,hb,rfl⟩:=h;have:=hx a ha;have:=hy b hb;simp only[X.ev];split<;>omega
 | emod x y _ _ =>
  intro n h;cases y<;>simp[X.hi]at h;obtain⟨h1,rfl⟩:=h;simp only[X.ev,V.toI_i];have:=Int.emod_lt_of_pos (x.ev J).toI h1;omega
 | wrap k x _ =>
  intro n h;cases k<;>simp[X.hi]at h;subst h;simp only[X.ev,V.toI_i,wrap_u8];omega
 | _=>intro n h;simp[X.hi]at h
def Z1o(l:Int)(x:X):List X:=match x.lo with|some n=>if l<=n then[]else[.le (.I l) x] | none=>[.le (.I l) x]
def Zgp(h:Int)(x:X):List X:=match x.hi with|some n=>if n<=h then[]else[.le x (.I h)] | none=>[.le x (.I h)]
def Z51(J:List V)(l:List X):Prop:=∀x∈l,(x.ev J).toB=true
theorem Zy{J:List V}{l:Int}{x:X}(h:Z51 J (Z1o l x)):l<=(x.ev J).toI:=by
 unfold Z1o at h;split at h
 ·rename_i n hn;have:=X.lo_ok J x n hn;split at h
  ·omega
  ·exact of_decide_eq_true (h _ (qy12.2 rfl))
 ·exact of_decide_eq_true (h _ (qy12.2 rfl))
theorem Zdm{J:List V}{l:Int}{x:X}(h:Z51 J (Zgp l x)):(x.ev J).toI<=l:=by
 unfold Zgp at h;split at h
 ·rename_i n hn;have:=X.hi_ok J x n hn;split at h
  ·omega
  ·exact of_decide_eq_true (h _ (qy12.2 rfl))
 ·exact of_decide_eq_true (h _ (qy12.2 rfl))
theorem Z51.app{J:List V}{a b:List X}(h:Z51 J (a++b)):Z51 J a/\Z51 J b:=⟨λx hx=>h x (by simp[hx]),λx hx=>h x (by simp[hx])⟩
def kmin:IntKind->Int | .i8=>-128 | .i16=>-32768 | .i32=>-2147483648 | .i64=>-9223372036854775808|_=>0
def kmax:IntKind->Int | .i8=>127 | .i16=>32767 | .i32=>2147483647 | .i64=>9223372036854775807 | .u8=>255 | .u16=>65535 | .u32=>4294967295 | .u64=>18446744073709551615
theorem Zfh(k:IntKind)(n:Int)(h1:kmin k<=n)(h2:n<=kmax k):k.wrap n=n:=by cases k<;>simp only[kmin,kmax]at h1 h2<;>simp[IntKind.wrap,IntKind.signed,IntKind.bits]<;>omega
def Z8k(k:IntKind)(x:X):List X×X :=
 match k with
 | .i64=>(Z1o (kmin k) x++Zgp (kmax k) x,x)
 | k=>match x.lo,x.hi with
  | some l,some h=>if kmin k<=l/\h<=kmax k then([],x)else([],.wrap k x)
  | _,_=>([],.wrap k x)
theorem Z59{J:List V}{k:IntKind}{x:X}(h:Z51 J (Z8k k x).1):(((Z8k k x).2).ev J).toI=k.wrap (x.ev J).toI:=by
 cases k
 case i64=>obtain⟨h1,h2⟩:=h.app;exact(Zfh .i64 _ (Zy h1) (Zdm h2)).symm
 all_goals
  simp only[Z8k]at h⊢;split
  ·rename_i l hh hl hhi;have:=X.lo_ok J x l hl;have:=X.hi_ok J x hh hhi;split
   ·show(x.ev J).toI=_
    exact(Zfh _ _ (by omega) (by omega)).symm
   ·simp[X.ev]
  ·simp[X.ev]
theorem Zr7(a b:List UInt8):(⟨a.toArray⟩++⟨b.toArray⟩:ByteArray)=⟨(a++b).toArray⟩:=by apply ByteArray.ext;simp
theorem Zk9(a:List UInt8)(l h:Nat):(⟨a.toArray⟩:ByteArray).extract l h=⟨((a.take h).drop l).toArray⟩:=by apply ByteArray.ext;simp[ByteArray.data_extract,List.extract_eq_take_drop,List.drop_take]
theorem Zcc(a:List UInt8):(⟨a.toArray⟩:ByteArray).size=a.length:=by simp[ByteArray.size]
theorem Zt8(a b:List UInt8):((⟨a.toArray⟩:ByteArray) == ⟨b.toArray⟩)=decide (a=b):=by
 rw[Bool.eq_iff_iff];constructor
 ·intro h;have:(a.toArray == b.toArray)=true:=h;simpa using this
 ·intro h;simp at h;subst h
  show(a.toArray == a.toArray)=true
  simp
def Z8v:X->X | .not x=>x | .B b=>.B (!b)|x=>.not x
theorem Z4e(J:List V)(x:X):((Z8v x).ev J).toB=!(x.ev J).toB:=by cases x<;>simp[Z8v,X.ev]
def Z9p:X->X->X | .B true,y=>y|x,.B true=>x | .B false,_=>.B false|_,.B false=>.B false|x,y=>.and x y
theorem Z6o(J:List V)(x y:X):((Z9p x y).ev J).toB=((x.ev J).toB && (y.ev J).toB):=by unfold Z9p;split<;>simp[X.ev]
def Zka(c x y:X):X:=match x,y with
 | .B true,y=>.or c y
 | x,.B false=>.and c x
 | x,y=>.ite c x y
theorem Zkb(J:List V)(c x y:X):((Zka c x y).ev J).toB=if(c.ev J).toB then(x.ev J).toB else(y.ev J).toB:=by unfold Zka;split<;>simp[X.ev]<;>cases(c.ev J).toB<;>simp
def mkOr:X->X->X | .B false,y=>y|x,.B false=>x | .B true,_=>.B true|_,.B true=>.B true|x,y=>.or x y
theorem Zr8(J:List V)(x y:X):((mkOr x y).ev J).toB=((x.ev J).toB || (y.ev J).toB):=by unfold mkOr;split<;>simp[X.ev]
def X.asm(x:X)(b:Bool):X->X
 | .not z=>if X.not z=x then .B b else Z8v (X.asm x b z)
 | .and u v=>if X.and u v=x then .B b else Z9p (X.asm x b u) (X.asm x b v)
 | .or u v=>if X.or u v=x then .B b else mkOr (X.asm x b u) (X.asm x b v)
 | y=>if y=x then .B b else y
theorem X.asm_ok{J:List V}{x:X}{b:Bool}(h:(x.ev J).toB=b):∀y:X,((X.asm x b y).ev J).toB=(y.ev J).toB:=by
 intro y;induction y with
 | not z ih=>simp only[X.asm];split;(rename_i e;rw[e,h];rfl);(rw[Z4e,ih];simp[X.ev])
 | and u v ih1 ih2=>simp only[X.asm];split;(rename_i e;rw[e,h];rfl);(rw[Z6o,ih1,ih2];simp[X.ev])
 | or u v ih1 ih2=>simp only[X.asm];split;(rename_i e;rw[e,h];rfl);(rw[Zr8,ih1,ih2];simp[X.ev])
 | _=>simp only[X.asm];split<;>first|(rename_i e;rw[e,h];rfl)|rfl
def X.bears:X->X->Bool
 | g,.and a b=>X.bears g a && X.bears g b
 | g,h=>g == h || go g h
where go:X->X->Bool
 | .and a b,h=>a == h || b == h || go a h || go b h
 | g,h=>g == h
theorem X.bears_go_ok(J:List V):∀(g h:X),X.bears.go g h=true->(g.ev J).toB=true->(h.ev J).toB=true:=by
 intro g;induction g with
 | and a b ha hb =>
  intro h hh hg;simp only[X.ev,V.toB_b,Bool.and_eq_true]at hg;simp only[X.bears.go,Bool.or_eq_true,beq_iff_eq]at hh;rcases hh with((h1|h1)|h1)|h1
  ·subst h1;exact hg.1
  ·subst h1;exact hg.2
  ·exact ha h h1 hg.1
  ·exact hb h h1 hg.2
 | _=>intro h hh hg;simp only[X.bears.go,beq_iff_eq]at hh;subst hh;exact hg
theorem X.bears_ok(J:List V)(g:X):∀(h:X),X.bears g h=true->(g.ev J).toB=true->(h.ev J).toB=true:=by
 intro h;induction h with
 | and a b ha hb =>
  intro hh hg;simp only[X.bears,Bool.and_eq_true]at hh;simp[X.ev,ha hh.1 hg,hb hh.2 hg]
 | _ =>
  intro hh hg;simp only[X.bears,Bool.or_eq_true,beq_iff_eq]at hh;rcases hh with h1|h1
  ·subst h1;exact hg
  ·exact X.bears_go_ok J _ _ h1 hg
def Tab.tag(T:Tab)(t:Nat):Option Tg:=match T.get t with|some i=>some i.tag|none=>none
def Zq(hp:List Ent)(v:Nat):Option (List Kd×X) :=
 match hp with
 | []=>none
 | .row u _ ks r::l=>if u=v then some (ks,r)else Zq l v
 | .rd u ks r::l=>if u=v then some (ks,r)else Zq l v
 | _::l=>Zq l v
def Zm(hp:List Ent)(v:Nat):Option (Nat×List Sc) :=
 match hp with
 | []=>none
 | .cells u ty cs::l=>if u=v then some (ty,cs)else Zm l v
 | _::l=>Zm l v
def Hold(J:List V)(hp:List Ent)(w:World):Prop:=∀e∈hp,e.holds J w
theorem Z27{J:List V}{w:World}:∀{hp:List Ent} {v:Nat} {ks:List Kd} {r:X},Hold J hp w->Zq hp v=some (ks,r)->reads w (J.getD v (.i 0)).toV ks (r.ev J).toR:=by
 intro hp;induction hp with
 | nil=>intro v ks r h hf;simp[Zq]at hf
 | cons e l ih =>
  intro v ks r h hf;have ih':=λhf'=>@ih v ks r (λe he=>h e (qy10 _ he)) hf';cases e with
  | row u ty ks' r' =>
   simp only[Zq]at hf;split at hf
   ·rename_i hu;subst hu;simp at hf;obtain⟨rfl,rfl⟩:=hf;exact owns.reads (h _ (qy8 ..))
   ·exact ih' hf
  | rd u ks' r' =>
   simp only[Zq]at hf;split at hf
   ·rename_i hu;subst hu;simp at hf;obtain⟨rfl,rfl⟩:=hf;exact h _ (qy8 ..)
   ·exact ih' hf
  | cells u ty cs=>simp only[Zq]at hf;exact ih' hf
  | st u=>simp only[Zq]at hf;exact ih' hf
theorem Z2h:∀{hp:List Ent} {v ty:Nat} {cs:List Sc},Zm hp v=some (ty,cs)->Ent.cells v ty cs∈hp:=by
 intro hp;induction hp with
 | nil=>intro v ty cs hf;simp[Zm]at hf
 | cons e l ih =>
  intro v ty cs hf;cases e with
  | cells u ty' cs' =>
   simp only[Zm]at hf;split at hf
   ·rename_i hu;subst hu;simp at hf;obtain⟨rfl,rfl⟩:=hf;exact qy8 ..
   ·exact qy10 _ (ih hf)
  | _=>simp only[Zm]at hf;exact qy10 _ (ih hf)
def lenK:X->Option Nat
 | .nilR=>some 0
 | .snocR r _=>(lenK r).map (·+1)
 | _=>none
def clI:X->Option Int
 | .I n=>some n
 | .add x y=>match clI x,clI y with|some a,some b=>some (a+b)|_,_=>none
 | .rlen r=>(lenK r).map Int.ofNat
 | _=>none
def clB:X->Option Bool
 | .lt x y=>match clI x,clI y with|some a,some b=>some (decide (a<b))|_,_=>none
 | _=>none
theorem Zkc{J:List V}:∀{r:X} {n:Nat},lenK r=some n->(r.ev J).toR.length=n
 | .nilR,n,h=>by simp[lenK]at h;subst h;rfl
 | .snocR r y,n,h=>by simp only[lenK,Option.map_eq_some_iff]at h;obtain⟨m,hm,rfl⟩:=h;simp[X.ev,Zkc hm]
theorem Zdn{J:List V}:∀{x:X} {n:Int},clI x=some n->(x.ev J).toI=n
 | .I m,n,h=>by simp[clI]at h;subst h;rfl
 | .rlen r,n,h=>by simp only[clI,Option.map_eq_some_iff]at h;obtain⟨m,hm,rfl⟩:=h;simp[X.ev,Zkc hm]
 | .add x y,n,h=>by
  simp only[clI]at h;split at h
  ·rename_i a b ha hb;have e1:=Zdn (J:=J) ha;have e2:=Zdn (J:=J) hb;simp only[Option.some.injEq]at h;simp[X.ev,e1,e2,h]
  ·cases h
theorem Zt9{J:List V}:∀{x:X} {b:Bool},clB x=some b->(x.ev J).toB=b
 | .lt x y,b,h=>by
  simp only[clB]at h;split at h
  ·rename_i a c ha hc;have e1:=Zdn (J:=J) ha;have e2:=Zdn (J:=J) hc;simp only[Option.some.injEq]at h;simp[X.ev,e1,e2,h]
  ·cases h
def rowK:X->Option (List X)
 | .nilR=>some []
 | .snocR r y=>(rowK r).map (·++[y])
 | _=>none
def Z9q:X->Nat->Option X
 | .consV x _,0=>some x
 | .consV _ y,c+1=>Z9q y c
 | .consI _ _ y,c+1=>Z9q y c
 | .consB _ y,c+1=>Z9q y c
 | .consS _ y,c+1=>Z9q y c
 | _,_=>none
def Znw(r i:X)(c:Nat):Option X:=match clI i,rowK r with
 | some n,some l=>match l[n.toNat]? with|some y=>Z9q y c|none=>none
 | _,_=>none
theorem Zkd{J:List V}:∀{r:X} {l:List X},rowK r=some l->(r.ev J).toR=l.map λy=>(y.ev J).toL
 | .nilR,l,h=>by simp[rowK]at h;subst h;rfl
 | .snocR r y,l,h=>by simp only[rowK,Option.map_eq_some_iff]at h;obtain⟨m,hm,rfl⟩:=h;simp[X.ev,Zkd hm]
theorem Z6p{J:List V}:∀{y:X} {c:Nat} {x:X},Z9q y c=some x->(y.ev J).toL.getD c undef=sc1 (x.ev J).toV
 | .consV a y,0,x,h=>by simp[Z9q]at h;subst h;simp[X.ev]
 | .consV a y,c+1,x,h=>by simp only[X.ev,V.toL_l,List.getD_cons_succ];exact Z6p (by simpa[Z9q]using h)
 | .consI k a y,c+1,x,h=>by simp only[X.ev,V.toL_l,List.getD_cons_succ];exact Z6p (by simpa[Z9q]using h)
 | .consB a y,c+1,x,h=>by simp only[X.ev,V.toL_l,List.getD_cons_succ];exact Z6p (by simpa[Z9q]using h)
 | .consS a y,c+1,x,h=>by simp only[X.ev,V.toL_l,List.getD_cons_succ];exact Z6p (by simpa[Z9q]using h)
theorem Zgq{J:List V}{r i:X}{c:Nat}{x:X}(h:Znw r i c=some x):((r.ev J).toR.getD (i.ev J).toI.toNat []).getD c undef=sc1 (x.ev J).toV:=by
 unfold Znw at h;split at h
 ·rename_i n l hn hl;split at h
  ·rename_i y hy;have e:(l.map λy=>(y.ev J).toL).getD n.toNat []=(y.ev J).toL:=by rw[qy1,List.getElem?_map,hy];rfl
   rw[Zkd hl,Zdn hn,e];exact Z6p h
  ·cases h
 ·cases h
def Z18(r i:X):Nat->List Kd->List Sc
 | _,[]=>[]
 | c,k::ks=>(match k with
  | .int k=>.int k (.rI r i c) | .bool=>.bool (.rB r i c) | .str=>.str (.rS r i c)|_=>match Znw r i c with|some .nilS=>.nils|some x=>.val x|none=>.val (.rV r i c))::Z18 r i (c+1) ks
def loadAt(T:Tab)(hp:List Ent)(t:Nat)(a:Sc):Option (List X×CV):=do
 let i <- T.get t
 match a with
 | .ptr v off =>
  let (_,cs) <- Zm hp v
  if off+i.ks.length<=cs.length then some ([],(i.agg,(cs.drop off).take i.ks.length))else none
 | .eptr v esz ix c =>
  let (ks,r) <- Zq hp v
  if ks.length=esz/\c+i.ks.length<=ks.length/\0<i.ks.length then
   some (Z1o 0 ix++[.lt ix (.rlen r)],(i.agg,Z18 r ix c ((ks.drop c).take i.ks.length)))else none
 | _=>none
def Zke(op:BinOp)(k:IntKind)(x y:X):Option (List X×CV) :=
 match op with
 | .add=>let r:=Z8k k (.add x y);some (r.1,(false,[.int k r.2]))
 | .sub=>let r:=Z8k k (.sub x y);some (r.1,(false,[.int k r.2]))
 | .mul=>let r:=Z8k k (.mul x y);some (r.1,(false,[.int k r.2]))
 | .quo=>some (Z1o 0 x++Zgp (kmax k) x++Z1o 1 y,(false,[.int k (.ediv x y)]))
 | .rem=>some (Z1o 0 x++Z1o 1 y,(false,[.int k (.emod x y)]))
 | .shl=>some (Z1o 0 y,(false,[.int k (.shl k x y)]))
 | .shr=>some (Z1o 0 y,(false,[.int k (.shr k x y)]))
 | .and | .or | .xor | .andNot=>some ([],(false,[.int k (.bits op k x y)]))
 | .eql=>some ([],(false,[.bool (.eqI x y)]))
 | .neq=>some ([],(false,[.bool (.not (.eqI x y))]))
 | .lss=>some ([],(false,[.bool (.lt x y)]))
 | .leq=>some ([],(false,[.bool (.le x y)]))
 | .gtr=>some ([],(false,[.bool (.lt y x)]))
 | .geq=>some ([],(false,[.bool (.le y x)]))
def Zr9(op:BinOp)(k:IntKind)(x y:X):Option (List X×CV) :=
 match op with
 | .shl=>some (Z1o 0 y,(false,[.int k (.shl k x y)]))
 | .shr=>some (Z1o 0 y,(false,[.int k (.shr k x y)]))
 | _=>none
def Zkf(op:BinOp)(x y:X):Option (List X×CV) :=
 match op with
 | .add=>some ([.le (.add (.len x) (.len y)) (.I 9223372036854775807)],(false,[.str (.cat x y)]))
 | .eql=>some ([],(false,[.bool (.eqS x y)]))
 | .neq=>some ([],(false,[.bool (.not (.eqS x y))]))
 | .lss=>some ([],(false,[.bool (.less x y)]))
 | .leq=>some ([],(false,[.bool (.or (.less x y) (.eqS x y))]))
 | .gtr=>some ([],(false,[.bool (.not (.or (.less x y) (.eqS x y)))]))
 | .geq=>some ([],(false,[.bool (.not (.less x y))]))
 | _=>none
def Zra(op:BinOp)(a b:Sc):Option (List X×CV) :=
 match a,b with
 | .int k x,.int k' y=>if k=k' then Zke op k x y else Zr9 op k x y
 | .str x,.str y=>Zkf op x y
 | _,_=>none
def Zfi(T:Tab)(ty:Nat)(a b:Sc):Option X :=
 match T.tag ty,a,b with
 | some (.int _),.int k x,.int k' y=>if k=k' then some (.eqI x y)else none
 | some .bool,.bool x,.bool y=>some (.eqB x y)
 | some .str,.str x,.str y=>some (.eqS x y)
 | _,_,_=>none
def Zdo(T:Tab)(cs ds:List Sc):List (Nat×Nat×Nat×Bool)->Option X
 | []=>some (.B true)
 | (off,ty,_,_)::l=>do
  let a <- cs[off]?
  let b <- ds[off]?
  let e <- Zfi T ty a b
  let r <- Zdo T cs ds l
  some (Z9p e r)
def Zrb(T:Tab)(t:Nat)(cs ds:List Sc):Option X :=
 match T.get t with
 | some i=>if i.eqs=true then(match i.tag with | .strct fl=>Zdo T cs ds fl|_=>none)else none
 | none=>none
def Z2v(fl:List (Nat×Nat×Nat×Bool))(cs:List Sc):List (Nat×CV)->Option (List Sc)
 | []=>some cs
 | (i,(g,p))::rest=>do
  let (off,_,sz,_) <- fl[i]?
  if p.length=sz/\off+sz<=cs.length/\(g=true\/p.length=1)then Z2v fl (cs.take off++p++cs.drop (off+sz)) rest else none
def Z7o(g:Operand->Option CV):List (Nat×Operand)->Option (List (Nat×CV))
 | []=>some []
 | (i,x)::l=>do let c <- g x;let r <- Z7o g l;some ((i,c)::r)
def Z6q(x y:X):List X:=if x=y then[]else match x.hi,y.lo with|some a,some b=>if a<=b then[]else[.le x y] | _,_=>[.le x y]
def Zcd(g:Operand->Option CV)(d:X):Option Operand->Option X
 | none=>some d
 | some l=>match g l with|some (false,[.int _ l])=>some l|_=>none
def Zkg(T:Tab)(hp:List Ent)(g:Operand->Option CV)(o:Op):Option (List X×CV) :=
 match o with
 | .move x | .assign x=>(g x).map λc=>([],c)
 | .nilCheck x=>match g x with
  | some (false,[.ptr v off])=>some ([],(false,[.ptr v off]))
  | _=>none
 | .binOp op t x y _=>match g x,g y with
  | some (false,[.bool a]),some (false,[.bool b])=>match op,T.tag t with
   | .eql,some .bool=>some ([],(false,[.bool (.eqB a b)]))
   | .neq,some .bool=>some ([],(false,[.bool (.not (.eqB a b))]))
   | _,_=>none
  | some (false,[.val a]),some (false,[.nils])=>match op,T.tag t,a with
   | .eql,some (.slice _),.var v=>(Zq hp v).map λ_=>([],(false,[.bool (.isnil (.var v))]))
   | .neq,some (.slice _),.var v=>(Zq hp v).map λ_=>([],(false,[.bool (.not (.isnil (.var v)))]))
   | _,_,_=>none
  | some (false,[a]),some (false,[b])=>Zra op a b
  | some (true,cs),some (true,ds)=>match op,Zrb T t cs ds with
   | .eql,some e=>some ([],(false,[.bool e]))
   | .neq,some e=>some ([],(false,[.bool (Z8v e)]))
   | _,_=>none
  | _,_=>none
 | .unOp .not _ x=>match g x with|some (false,[.bool a])=>some ([],(false,[.bool (Z8v a)]))|_=>none
 | .unOp .neg _ x=>match g x with|some (false,[.int k a])=>let r:=Z8k k (.sub (.I 0) a);some (r.1,(false,[.int k r.2]))|_=>none
 | .convert src dst x=>match (T.get src),T.tag dst,g x with
  | some _,some (.int k),some (false,[.int _ a])=>let r:=Z8k k a;some (r.1,(false,[.int k r.2]))
  | some _,some .str,some (false,[.str a])=>some ([],(false,[.str a]))
  | _,_,_=>none
 | .slice t x lo hi none=>match T.tag t,g x with
  | some .str,some (false,[.str a])=>match Zcd g (.I 0) lo,Zcd g (.len a) hi with
   | some l,some h=>some (Z1o 0 l++(Z6q l h++Z6q h (.len a)),(false,[.str (.sl a l h)]))
   | _,_=>none
  | _,_=>none
 | .fieldAddr s x f=>match T.tag s,g x with
  | some (.strct fl),some (false,[.ptr v off])=>do
   let (fo,_,sz,_) <- fl[f]?
   if 0<sz then some ([],(false,[.ptr v (off+fo)]))else none
  | some (.strct fl),some (false,[.eptr v esz i c])=>do
   let (fo,_,sz,_) <- fl[f]?
   let (_,r) <- Zq hp v
   if 0<sz then some (Z1o 0 i++[.lt i (.rlen r)],(false,[.eptr v esz i (c+fo)]))else none
  | _,_=>none
 | .field t x f=>match T.tag t,g x with
  | some (.strct fl),some (true,cs)=>do
   let (fo,_,sz,ag) <- fl[f]?
   if ag then some ([],(true,(cs.drop fo).take sz))else do let c <- cs[fo]?;some ([],(false,[c]))
  | _,_=>none
 | .indexAddr t x i=>match T.tag t,g x,g i with
  | some (.slice e),some (false,[.val (.var v)]),some (false,[.int _ ix])=>do
   let ei <- T.get e
   let (ks,r) <- Zq hp v
   if ks.length=ei.ks.length then some (Z1o 0 ix++[.lt ix (.rlen r)],(false,[.eptr v ks.length ix 0]))else none
  | _,_,_=>none
 | .index t x i=>match T.tag t,g x,g i with
  | some .str,some (false,[.str a]),some (false,[.int _ ix])=>some (Z1o 0 ix++[.lt ix (.len a)],(false,[.int .u8 (.at_ a ix)]))
  | _,_,_=>none
 | .build t parts=>match T.get t with
  | some { tag:=.strct fl,zs:=zs,.. }=>do
   let ps <- Z7o g parts.toList
   let cs <- Z2v fl zs ps
   some ([],(true,cs))
  | _=>none
 | .call c=>match c.callee,c.args.toList,c.argTypes.toList with
  | .builtin .len,[x],[t]=>match T.tag t,g x with
   | some .str,some (false,[.str a])=>some ([],(false,[.int .i64 (.len a)]))
   | some (.slice _),some (false,[.val (.var v)])=>do let (_,r) <- Zq hp v;some ([],(false,[.int .i64 (.rlen r)]))
   | some (.slice _),some (false,[.nils])=>some ([],(false,[.int .i64 (.I 0)]))
   | _,_=>none
  | .builtin .min,[x,y],_=>match g x,g y with
   | some (false,[.int k a]),some (false,[.int _ b])=>some ([],(false,[.int k (.min a b)]))
   | _,_=>none
  | _,_,_=>none
 | .load t x=>match g x with
  | some (false,[a])=>loadAt T hp t a
  | _=>none
 | _=>none
theorem Hold.toRow{J:List V}{hp:List Ent}{w:World}(h:Hold J hp w){v:Nat}{ks:List Kd}{r ix:X}(hf:Zq hp v=some (ks,r)) (hn:Z51 J (Z1o 0 ix++[.lt ix (.rlen r)])):∃ad cap,(J.getD v (.i 0)).toV=.slice (some ad) (r.ev J).toR.length cap/\0<=(ix.ev J).toI/\(ix.ev J).toI<(r.ev J).toR.length:=by obtain⟨h1,h2⟩:=hn.app;have h1:=Zy h1;have h2:(ix.ev J).toI<(r.ev J).toR.length:=of_decide_eq_true (h2 _ (qy12.2 rfl));obtain⟨_,a,cap,hv,_,h3⟩:=Z27 h hf;obtain⟨ad,rfl,_⟩:=h3 (λe=>by rw[e]at h2;simp at h2;omega);exact⟨ad,cap,hv,h1,h2⟩
variable {P:Program} {T:Tab} {J:List V} {hp:List Ent} {w:World}
theorem Z4f(w:World)(a:Addr):∀(n i:Nat) (vs:List Value) (acc:Array Value),vs.length=n->(∀j u,vs[j]?=some u->w.cell? (a.add (i+j))=some u)->(loadCellsFrom a i n acc).run P w=.ok (acc++vs.toArray) w
 | 0,i,[],acc,_,_=>by simp[loadCellsFrom,go_sem]
 | n+1,i,v::vs,acc,hl,h=>by
  have h0:w.cell? (a.add i)=some v:=by simpa using h 0 v rfl
  have:=Z4f w a n (i+1) vs (acc.push v) (by simpa using hl) (λj u hu=>by have:=h (j+1) u (by simpa using hu);rw[<- this];congr 2;omega);simp[loadCellsFrom,go_sem,h0,this]
theorem Z41(a:Addr):a.add 0=a:=by simp[Addr.add]
theorem Z96(a:Addr)(i j:Nat):(a.add i).add j=a.add (i+j):=by simp only[Addr.add];by_cases hi:i=0<;>by_cases hj:j=0<;>simp[hi,hj]<;>omega
theorem Zbf(b o j:Nat):(⟨b,o,none⟩:Addr).add j=⟨b,o+j,none⟩:=by simp only[Addr.add];split<;>simp_all
theorem Z9r(t:Nat)(d:TypeDesc)(inf:TypeInfo)(a:Addr)(vs:List Value)(hd:P.underlying t=some d)(hi:P.info? t=some inf)(hs:inf.size=vs.length) (hv:∀j u,vs[j]?=some u->w.cell? (a.add j)=some u) (h1:Z1d d=false->vs.length=1) : (Instr.loadAt t (.pointer (some a))).run P w=.ok (if Z1d d then .agg vs.toArray else vs.getD 0 undef) w:=by
 have hl:=Z4f (P:=P) w a vs.length 0 vs #[] rfl (λj u hu=>by simpa using hv j u hu);by_cases hg:Z1d d=true
 ·cases d<;>simp[Z1d]at hg<;>simp[Instr.loadAt,go_sem,run_underlying hd,loadVar,isAgg,loadCells,hi,hs,hl,sizeOf,typeInfo,Z1d]
 ·have hg:Z1d d=false:=by simpa using hg
  have h1:=h1 hg
  match vs,h1 with
  | [v],_ =>
   have hv0:w.cell? a=some v:=by simpa[Z41]using hv 0 v rfl
   cases d<;>simp[Z1d]at hg<;>simp[Instr.loadAt,go_sem,run_underlying hd,loadVar,isAgg,hv0,Z1d]
theorem Ziu{v ty:Nat}{cs:List Sc}(hh:(Ent.cells v ty cs).holds J w){off j:Nat}{s:Sc}(hs:cs[off+j]?=some s) : w.cell? ((⟨(J.getD v (.i 0)).toN,off,none⟩:Addr).add j)=some (s.ev J):=by rw[Zbf,cell_of_row w _ _ _ _ _ hh];simp[hs]
theorem Zkh{g:Bool}{cs:List Sc}(h1:g=false->cs.length=1):CV.ev J (g,cs)=if g then .agg (cs.map (Sc.ev J)).toArray else(cs.map (Sc.ev J)).getD 0 undef:=by
 cases g
 ·match cs,h1 rfl with
  | [s],_=>simp[CV.ev]
 ·simp[CV.ev]
theorem Z1w(r i:X):∀(ks:List Kd) (c:Nat),(Z18 r i c ks).length=ks.length
 | [],_=>rfl
 | _::ks,c=>by simp[Z18,Z1w r i ks (c+1)]
theorem Z4g(r i:X):∀(ks:List Kd) (c j:Nat) (k:Kd),ks[j]?=some k->k.ok (((r.ev J).toR.getD (i.ev J).toI.toNat []).getD (c+j) undef) -> ((Z18 r i c ks)[j]?).map (Sc.ev J)=some (((r.ev J).toR.getD (i.ev J).toI.toNat []).getD (c+j) undef)
 | k0::ks,c,0,k,hk,ho=>by
  simp at hk;subst hk;simp only[Z18,List.getElem?_cons_zero,Option.map_some,Nat.add_zero]at ho⊢;have hval:∀{c:Nat},((r.ev J).toR.getD (i.ev J).toI.toNat []).getD c undef |>.oneCell'->Sc.ev J (match Znw r i c with|some .nilS=>.nils|some x=>.val x|none=>.val (.rV r i c))=((r.ev J).toR.getD (i.ev J).toI.toNat []).getD c undef:=λ{c} h1=>by
   split
   ·rename_i hx;rw[Zgq (J:=J) hx];rfl
   ·rename_i x _ hx;rw[Zgq (J:=J) hx];rfl
   ·simp only[Sc.ev,X.ev,V.toV_v];rw[Zqf _ h1]
  cases k0<;>simp only[Kd.ok]at ho<;>simp only[Sc.ev,X.ev,V.toI_i,V.toB_b,V.toS_s,V.toV_v]
  ·obtain⟨n,hn⟩:=ho;rw[hn];rfl
  ·obtain⟨n,hn⟩:=ho;rw[hn];rfl
  ·obtain⟨n,hn⟩:=ho;rw[hn];simp[Value.gS]
  ·exact congrArg some (hval ho)
  ·exact congrArg some (hval ho)
 | k0::ks,c,j+1,k,hk,ho=>by have:=Z4g r i ks (c+1) j k (by simpa using hk) (by rw[show c+1+j=c+(j+1) by omega];exact ho);rw[show c+1+j=c+(j+1) by omega]at this;simpa[Z18]using this
theorem Zdp(hT:Z9o P T)(hr:Hold J hp w){t:Nat}{a:Sc}{ns:List X}{c:CV}(h:loadAt T hp t a=some (ns,c))(hn:Z51 J ns) : (Instr.loadAt t (a.ev J)).run P w=.ok (CV.ev J c) w:=by
 simp only[loadAt,Option.bind_eq_bind,Option.bind_eq_some_iff]at h;obtain⟨i,hi,h⟩:=h;obtain⟨d,inf,z,hd,hinf,hsz,-,-,-,-,hzl,hag,-,h1,-⟩:=(hT.get hi).ok;cases a<;>try (simp at h;done)
 case ptr v off =>
  simp only[Option.bind_eq_some_iff]at h;obtain⟨⟨ty,cs⟩,hc,h⟩:=h;simp only[Option.ite_none_right_eq_some,Option.some.injEq,Prod.mk.injEq]at h;obtain⟨hle,rfl,rfl⟩:=h;have hh:=hr _ (Z2h hc);have hlen:(((cs.drop off).take i.ks.length).map (Sc.ev J)).length=i.ks.length:=by simp;omega
  have:=Z9r (P:=P) (w:=w) t d inf ⟨(J.getD v (.i 0)).toN,off,none⟩ (((cs.drop off).take i.ks.length).map (Sc.ev J)) hd hinf (by rw[hsz,hlen]) (λj u hu=>by simp only[List.getElem?_map,Option.map_eq_some_iff]at hu;obtain⟨s,hs,rfl⟩:=hu;exact Ziu hh (by simp only[List.getElem?_take]at hs;split at hs<;>simp_all)) (λhg=>by rw[hlen];rw[<- hzl];exact h1 (by rw[<- hag];exact hg))
  simp only[Sc.ev];rw[this,Zkh (λhg=>by have:=h1 hg;simp;omega),hag]
 case eptr v esz ix c0 =>
  simp only[Option.bind_eq_some_iff]at h;obtain⟨⟨ks,r⟩,hf,h⟩:=h;simp only[Option.ite_none_right_eq_some,Option.some.injEq,Prod.mk.injEq]at h;obtain⟨⟨rfl,hle,hpos⟩,rfl,rfl⟩:=h;obtain⟨ad,cap,hv,h0,hlt⟩:=hr.toRow hf hn;have hrd:=Z27 hr hf;have hlen:((Z18 r ix c0 ((ks.drop c0).take i.ks.length)).map (Sc.ev J)).length=i.ks.length:=by simp[Z1w];omega
  have:=Z9r (P:=P) (w:=w) t d inf (ad.add ((ix.ev J).toI.toNat*ks.length+c0)) ((Z18 r ix c0 ((ks.drop c0).take i.ks.length)).map (Sc.ev J)) hd hinf (by rw[hsz,hlen]) (λj u hu=>by
   have hj:j<i.ks.length:=by rw[<- hlen];exact(List.getElem?_eq_some_iff.1 hu).1
   have hcj:c0+j<ks.length:=by omega
   obtain⟨ad',cap',hv',hcell,hok⟩:=hrd.get (i:=(ix.ev J).toI.toNat) (c:=c0+j) (by omega) hcj;rw[hv]at hv';simp only[Value.slice.injEq,Option.some.injEq]at hv';obtain⟨rfl,-,-⟩:=hv';have hget:=Z4g (J:=J) r ix ((ks.drop c0).take i.ks.length) c0 j ks[c0+j] (by simp[hj,qy7 hcj]) hok;rw[List.getElem?_map,hget]at hu;rw[Z96,Nat.add_assoc,hcell];exact hu) (λhg=>by rw[hlen];rw[<- hzl];exact h1 (by rw[<- hag];exact hg))
  simp only[Sc.ev,hv];rw[this,Zkh (λhg=>by have:=h1 hg;simp[Z1w];omega),hag]
theorem Zki{op:BinOp}{k:IntKind}{x y:X}{ns:List X}{c:CV}(h:Zke op k x y=some (ns,c))(hn:Z51 J ns)(t:Nat)(ox oy:Operand) : (do Go.eqGuard op t ox oy (.int k (x.ev J).toI) (.int k (y.ev J).toI);Go.binOp op t (.int k (x.ev J).toI) (.int k (y.ev J).toI):Sem Value).run P w=.ok (CV.ev J c) w:=by
 cases op<;>simp only[Zke,Option.some.injEq,Prod.mk.injEq]at h<;>obtain⟨rfl,rfl⟩:=h<;>simp only[CV.ev,Sc.ev]
 case add=>rw[Z59 hn];simp[Go.eqGuard,Go.binOp,Op.intArith,go_sem,X.ev]
 case sub=>rw[Z59 hn];simp[Go.eqGuard,Go.binOp,Op.intArith,go_sem,X.ev]
 case mul=>rw[Z59 hn];simp[Go.eqGuard,Go.binOp,Op.intArith,go_sem,X.ev]
 case quo =>
  obtain⟨h12,h3⟩:=hn.app;obtain⟨h1,h2⟩:=h12.app;have h1:=Zy h1;have h2:=Zdm h2;have h3:=Zy h3;have hy:(y.ev J).toI≠0:=by omega
  have e:((x.ev J).toI.tdiv (y.ev J).toI)=(x.ev J).toI / (y.ev J).toI:=Int.tdiv_eq_ediv_of_nonneg h1;have b1:=Int.ediv_nonneg h1 (show 0<=(y.ev J).toI by omega);have b2:=Int.ediv_le_self (y.ev J).toI h1;have hw:=Zfh k ((x.ev J).toI / (y.ev J).toI) (by cases k<;>simp only[kmin]<;>omega) (by omega);simp[Go.eqGuard,Go.binOp,Op.intDiv,go_sem,X.ev,hy,e,hw]
 case rem =>
  obtain⟨h1,h3⟩:=hn.app;have h1:=Zy h1;have h3:=Zy h3;have hy:(y.ev J).toI≠0:=by omega
  have e:((x.ev J).toI.tmod (y.ev J).toI)=(x.ev J).toI % (y.ev J).toI:=Int.tmod_eq_emod_of_nonneg h1;simp[Go.eqGuard,Go.binOp,Op.intDiv,go_sem,X.ev,hy,e]
 case shl =>
  have h1:=Zy hn;have:¬(y.ev J).toI<0:=by omega
  simp[Go.eqGuard,Go.binOp,Op.shift,go_sem,X.ev,this]
 case shr =>
  have h1:=Zy hn;have:¬(y.ev J).toI<0:=by omega
  simp[Go.eqGuard,Go.binOp,Op.shift,go_sem,X.ev,this]
 all_goals first
  | (simp[Go.eqGuard,Go.binOp,Op.intCmp,Op.intBits,go_sem,X.ev,Zw];done)
  | (simp[Go.eqGuard,Go.binOp,Op.intCmp,go_sem,X.ev];rw[Bool.eq_iff_iff];simp)
theorem Znx{op:BinOp}{k k':IntKind}{x y:X}{ns:List X}{c:CV}(h:Zr9 op k x y=some (ns,c))(hn:Z51 J ns)(t:Nat)(ox oy:Operand) : (do Go.eqGuard op t ox oy (.int k (x.ev J).toI) (.int k' (y.ev J).toI);Go.binOp op t (.int k (x.ev J).toI) (.int k' (y.ev J).toI):Sem Value).run P w=.ok (CV.ev J c) w:=by
 cases op<;>simp only[Zr9,Option.some.injEq,Prod.mk.injEq,reduceCtorEq]at h<;>obtain⟨rfl,rfl⟩:=h<;>simp only[CV.ev,Sc.ev];all_goals
  have h1:=Zy hn;have:¬(y.ev J).toI<0:=by omega
  simp[Go.eqGuard,Go.binOp,Op.shift,go_sem,X.ev,this]
theorem Zkj{op:BinOp}{x y:X}{ns:List X}{c:CV}(h:Zkf op x y=some (ns,c))(hn:Z51 J ns)(t:Nat)(ox oy:Operand) : (do Go.eqGuard op t ox oy (.string ⟨(x.ev J).toS.toArray⟩) (.string ⟨(y.ev J).toS.toArray⟩);Go.binOp op t (.string ⟨(x.ev J).toS.toArray⟩) (.string ⟨(y.ev J).toS.toArray⟩):Sem Value).run P w=.ok (CV.ev J c) w:=by
 cases op<;>simp only[Zkf,Option.some.injEq,Prod.mk.injEq,reduceCtorEq]at h<;>obtain⟨rfl,rfl⟩:=h<;>simp only[CV.ev,Sc.ev]
 case add =>
  have h1:(((x.ev J).toS.length:Int)+(y.ev J).toS.length)<=9223372036854775807:=of_decide_eq_true (hn _ (qy12.2 rfl));have h2:¬9223372036854775807<(((x.ev J).toS.length:Int)+(y.ev J).toS.length):=by omega
  simp[Go.eqGuard,Go.binOp,Op.stringOp,go_sem,X.ev,h2,Zr7]
 all_goals
  simp[Go.eqGuard,Go.binOp,Op.stringOp,go_sem,X.ev];try (rw[Bool.eq_iff_iff];simp)
theorem Zny{op:BinOp}{a b:Sc}{ns:List X}{c:CV}(h:Zra op a b=some (ns,c))(hn:Z51 J ns)(t:Nat)(x y:Operand) : (do Go.eqGuard op t x y (a.ev J) (b.ev J);Go.binOp op t (a.ev J) (b.ev J):Sem Value).run P w=.ok (CV.ev J c) w:=by
 unfold Zra at h;split at h
 ·split at h
  ·rename_i hk;subst hk;exact Zki h hn t x y
  ·exact Znx h hn t x y
 ·exact Zkj h hn t x y
 ·cases h
end Go.Sx
namespace Go.Sx
open Go
variable {P:Program} {T:Tab} {J:List V} {hp:List Ent} {w:World}
theorem Z9o.tag{T:Tab}(h:Z9o P T){t:Nat}{g:Tg}(hg:T.tag t=some g):∃d,P.underlying t=some d/\Z5u P g d:=by
 unfold Tab.tag at hg;split at hg
 ·rename_i i hi;simp at hg;subst hg;obtain⟨d,inf,z,hd,hinf,-,-,-,-,-,-,-,ht,-⟩:=(h.get hi).ok;exact⟨d,hd,ht⟩
 ·cases hg
theorem Z6r{fl:List (Nat×Nat×Nat×Bool)}{d:TypeDesc}(h:Z5u P (.strct fl) d):∃fs,d=.struct fs/\fl.length=fs.size/\∀(n:Nat) p,fl[n]?=some p->∃f d i,fs[n]?=some f/\f.offset=p.1/\f.type=p.2.1/\(f.name ≠ "_")/\P.underlying f.type=some d/\P.info? f.type=some i/\i.size=p.2.2.1/\Z1d d=p.2.2.2:=by cases d<;>simp only[Z5u]at h;exact⟨_,rfl,h.1,h.2⟩
theorem Z1i{e:Nat}{d:TypeDesc}(h:Z5u P (.slice e) d):d=.slice e:=by cases d<;>simp only[Z5u]at h;rw[h]
theorem Z68{d:TypeDesc}(h:Z5u P .str d):d=.string:=by cases d<;>simp only[Z5u]at h;rfl
theorem Zce{d:TypeDesc}(h:Z5u P .bool d):d=.bool:=by cases d<;>simp only[Z5u]at h;rfl
theorem Zcf{k:IntKind}{d:TypeDesc}(h:Z5u P (.int k) d):d=.int k:=by cases d<;>simp only[Z5u]at h;rw[h]
theorem runv{s:Sem Value}{v:Value}(h:s.run P w=.ok v w):(do pure (Next.value (<- s)):Sem Next).run P w=.ok (.value v) w:=by simp[go_sem,h]
theorem Zdq(off:Nat):∀(vs:List Value) (k:Nat) (l:List Value),off+k+vs.length<=l.length -> (vs.zipIdx k).foldl (λ(cs:Array Value) (p:Value×Nat)=>cs.setIfInBounds (off+p.2) p.1) l.toArray=(l.take (off+k)++vs++l.drop (off+k+vs.length)).toArray:=by
 intro vs;induction vs with
 | nil=>intro k l h;simp
 | cons v vs ih =>
  intro k l h;simp only[List.length_cons]at h;simp only[List.zipIdx_cons,List.foldl_cons,List.setIfInBounds_toArray];rw[ih (k+1) _ (by simp;omega)];congr 1
  have e1:(l.set (off+k) v).take (off+(k+1))=l.take (off+k)++[v]:=by rw[show off+(k+1)=off+k+1 by omega,List.take_add_one,List.take_set_of_le (by omega)];simp[show off+k<l.length by omega]
  have e2:(l.set (off+k) v).drop (off+(k+1)+vs.length)=l.drop (off+k+(vs.length+1)):=by rw[List.drop_set_of_lt (by omega)];congr 1;omega
  rw[e1,e2];simp
theorem Z97{g:Bool}{p:List Sc}(h:g=true\/p.length=1):(CV.ev J (g,p)).cells.toList=p.map (Sc.ev J):=by
 cases g
 ·match p,h with
  | [s],_ =>
   have h1:=Sc.ev_one J s;simp only[CV.ev,List.map_cons,List.map_nil];generalize s.ev J=v at *
   cases v<;>first|rfl|(simp[Value.oneCell']at h1)
  | [],h=>simp at h
  | _::_::_,h=>simp at h
 ·simp[CV.ev,Value.cells]
theorem Zkk{fl:List (Nat×Nat×Nat×Bool)}{place:Nat->Option (Nat×Nat)}(hpl:∀n p,fl[n]?=some p->place n=some (p.1,p.2.2.1)) : ∀(ps:List (Nat×CV)) (cs cs':List Sc),Z2v fl cs ps=some cs'  -> Instr.fill place (cs.map (Sc.ev J)).toArray (ps.map λp=>(p.1,CV.ev J p.2))=some (cs'.map (Sc.ev J)).toArray:=by
 intro ps;induction ps with
 | nil=>intro cs cs' h;simp[Z2v]at h;subst h;simp[Instr.fill]
 | cons p ps ih =>
  intro cs cs' h;obtain⟨i,g,p⟩:=p;simp only[Z2v,Option.bind_eq_bind,Option.bind_eq_some_iff]at h;obtain⟨⟨off,ty,sz,ag⟩,hfl,h⟩:=h;simp only[Option.ite_none_right_eq_some]at h;obtain⟨⟨hs,hle,hg1⟩,h⟩:=h;have hcell:=Z97 (J:=J) hg1;have ih':=ih _ _ h;have hsz:(CV.ev J (g,p)).cells.size=sz:=by rw[<- Array.length_toList,hcell];simpa using hs
  simp only[List.map_cons,Instr.fill,hpl _ _ hfl,hsz,ne_eq,not_true_eq_false,decide_false,Bool.false_or,List.size_toArray,qy3];rw[if_neg (by simp;omega)];rw[<- ih'];congr 1
  rw[<- Array.foldl_toList,Array.toList_zipIdx,hcell];have:=Zdq off (p.map (Sc.ev J)) 0 (cs.map (Sc.ev J)) (by simp;omega);simp only[qy3,Nat.add_zero,hs]at this;refine this.trans ?_;simp[List.map_take,List.map_drop]
theorem Zbg{g:Operand->Option CV}{e:Operand->Value}(hg:∀x c,g x=some c->e x=CV.ev J c):∀(l:List (Nat×Operand)) (ps:List (Nat×CV)), Z7o g l=some ps->l.map (λp=>(p.1,e p.2))=ps.map λp=>(p.1,CV.ev J p.2):=by
 intro l;induction l with
 | nil=>intro ps h;simp[Z7o]at h;subst h;rfl
 | cons p l ih =>
  intro ps h;obtain⟨i,x⟩:=p;simp only[Z7o,Option.bind_eq_bind,Option.bind_eq_some_iff,Option.some.injEq]at h;obtain⟨c,hc,r,hr,rfl⟩:=h;simp[hg x c hc,ih r hr]
theorem Zgr{α β:Type}(G:α->Sem β)(w:World):∀(l:List α) (ys:List β),ys.length=l.length->(∀(n:Nat) x y,l[n]?=some x->ys[n]?=some y->(G x).run P w=.ok y w)->(l.mapM G).run P w=.ok ys w:=by
 intro l;induction l with
 | nil=>intro ys h1 h2;have:=List.eq_nil_of_length_eq_zero h1;subst this;simp[go_sem]
 | cons x l ih =>
  intro ys h1 h2
  match ys,h1 with
  | y::ys,h1 =>
   have e1:=h2 0 x y rfl rfl;have e2:=ih ys (by simpa using h1) (λn a b ha hb=>h2 (n+1) a b (by simpa using ha) (by simpa using hb));simp[List.mapM_cons,go_sem,e1,e2]
theorem Zkl(w:World){fs:Array Field}{fl:List (Nat×Nat×Nat×Bool)} (hfl:∀(n:Nat) p,fl[n]?=some p->∃f d i,fs[n]?=some f/\f.offset=p.1/\f.type=p.2.1/\(f.name ≠ "_")/\P.underlying f.type=some d/\P.info? f.type=some i/\i.size=p.2.2.1/\Z1d d=p.2.2.2) (hlen:fl.length=fs.size) (G:Field->Sem (Nat×Nat)) (hG:∀f i,P.info? f.type=some i->(G f).run P w=.ok (f.offset,i.size) w):(fs.mapM G).run P w=.ok (fl.map λp=>(p.1,p.2.2.1)).toArray w:=by
 obtain⟨l⟩:=fs;simp only[List.getElem?_toArray,List.size_toArray]at hfl hlen;rw[List.mapM_toArray];have key:=Zgr (P:=P) G w l (fl.map λp=>(p.1,p.2.2.1)) (by simpa using hlen) (λn x y hx hy=>by simp only[List.getElem?_map,Option.map_eq_some_iff]at hy;obtain⟨p,hp,rfl⟩:=hy;obtain⟨f,d,i,hf,ho,ht,hn,hu,hi,hs,ha⟩:=hfl n p hp;rw[hx]at hf;simp at hf;subst hf;rw[hG x i hi,ho,hs])
 simp[go_sem,key]
variable {P:Program} {T:Tab} {J:List V} {hp:List Ent} {w:World}
theorem Znz{t:Nat}{l:List UInt8}{lo hi:Option Value}{a b:Int}(ht:P.underlying t=some .string) (hlo:∀v,lo=some v->∃k,v=.int k a) (hhi:∀v,hi=some v->∃k,v=.int k b) (h1:lo=none->a=0) (h2:hi=none->b=l.length) (ha:0<=a) (hab:a<=b) (hb:b<=l.length) : (Instr.sliceAt t (.string ⟨l.toArray⟩) lo hi none).run P w=.ok (.string ⟨((l.take b.toNat).drop a.toNat).toArray⟩) w:=by
 have hb0:0<=b:=by omega
 have e1:b<=((⟨l.toArray⟩:ByteArray).size:Nat):=by rw[Zcc];exact hb
 have key:(Instr.sliceAt t (.string ⟨l.toArray⟩) lo hi none).run P w=.ok (.string ((⟨l.toArray⟩:ByteArray).extract a.toNat b.toNat)) w:=by
  cases lo<;>cases hi
  ·have:=h1 rfl;subst this;have:=h2 rfl;subst this;simp[Instr.sliceAt,Instr.slice,Instr.sliceBounds,go_sem,run_underlying ht];rw[Zk9];simp
  ·obtain⟨k,rfl⟩:=hhi _ rfl;have:=h1 rfl;subst this;have e2:b<=((l.length:Nat):Int):=hb;simp[Instr.sliceAt,Instr.slice,Instr.sliceBounds,Instr.sliceBound,asIntOf,go_sem,run_underlying ht,hb0,e2]
  ·obtain⟨k,rfl⟩:=hlo _ rfl;have:=h2 rfl;subst this;have e2:a<=((l.length:Nat):Int):=hab;simp[Instr.sliceAt,Instr.slice,Instr.sliceBounds,Instr.sliceBound,asIntOf,go_sem,run_underlying ht,ha,e2]
  ·obtain⟨k,rfl⟩:=hlo _ rfl;obtain⟨k',rfl⟩:=hhi _ rfl;obtain⟨n,rfl⟩:=Int.eq_ofNat_of_zero_le hb0;obtain⟨m,rfl⟩:=Int.eq_ofNat_of_zero_le ha;have e2:n<=l.length:=by omega
   have e3:m<=n:=by omega
   simp[Instr.sliceAt,Instr.slice,Instr.sliceBounds,Instr.sliceBound,asIntOf,go_sem,run_underlying ht,e2,e3]
 rw[key,Zk9]
theorem Zo0{t:Nat}{l:List UInt8}{k:IntKind}{i:Int}(ht:P.underlying t=some .string)(h0:0<=i)(h1:i<l.length) : (Instr.index t (.string ⟨l.toArray⟩) (.int k i)).run P w=.ok (.int .u8 ((l.getD i.toNat 0).toNat:Int)) w:=by
 have h2:i.toNat<l.length:=by omega
 have e:(⟨l.toArray⟩:ByteArray)[i.toNat]?=some l[i.toNat]:=by rw[getElem?_pos _ _ (by simpa[ByteArray.size]using h2)];simp[ByteArray.getElem_eq_getElem_data]
 simp[Instr.index,asIntOf,go_sem,run_underlying ht,h0,e,qy1,qy7 h2]
theorem Z5a(n t:Nat)(a b:Bool)(ht:P.underlying t=some .bool):(Op.equalIn (n+1) t (.bool a) (.bool b)).run P w=.ok (a == b) w:=by simp only[Op.equalIn];simp[go_sem,run_underlying ht]
theorem Zfj(n t:Nat)(k k':IntKind)(a b:Int)(ht:P.underlying t=some (.int k')):(Op.equalIn (n+1) t (.int k a) (.int k b)).run P w=.ok (a == b) w:=by simp only[Op.equalIn];simp[go_sem,run_underlying ht]
theorem Zfk(n t:Nat)(a b:List UInt8)(ht:P.underlying t=some .string):(Op.equalIn (n+1) t (.string ⟨a.toArray⟩) (.string ⟨b.toArray⟩)).run P w=.ok (decide (a=b)) w:=by simp only[Op.equalIn];simp[go_sem,run_underlying ht,Zt8]
theorem Zo1(t:Nat)(a b:Bool)(x y:Operand)(ht:P.underlying t=some .bool):(do Go.eqGuard .eql t x y (.bool a) (.bool b);Go.binOp .eql t (.bool a) (.bool b):Sem Value).run P w=.ok (.bool (a == b)) w:=by have:=Z5a (w:=w) 9999 t a b ht;simp only[Go.binOp,Op.equal,Op.maxDepth];simp[Go.eqGuard,go_sem,this]
theorem Zo2(t:Nat)(a b:Bool)(x y:Operand)(ht:P.underlying t=some .bool):(do Go.eqGuard .neq t x y (.bool a) (.bool b);Go.binOp .neq t (.bool a) (.bool b):Sem Value).run P w=.ok (.bool (!(a == b))) w:=by have:=Z5a (w:=w) 9999 t a b ht;simp only[Go.binOp,Op.equal,Op.maxDepth];simp[Go.eqGuard,go_sem,this]
theorem Zdr{t off:Nat}{d:TypeDesc}{cs:List Sc}{a:Sc}(hd:P.underlying t=some d)(hg:Z1d d=false)(ha:cs[off]?=some a) : (part t (cs.map (Sc.ev J)).toArray off).run P w=.ok (a.ev J) w:=by
 have hv:((cs.map (Sc.ev J)).toArray)[off]?=some (a.ev J):=by simp[ha]
 cases d<;>simp[Z1d]at hg<;>simp only[part,Sem.run_bind,isAgg]<;>simp[go_sem,run_underlying hd,hv]
theorem Ziv(hT:Z9o P T){d ty:Nat}{a b:Sc}{e:X}(h:Zfi T ty a b=some e) : ∃u,P.underlying ty=some u/\Z1d u=false/\(Op.equalIn (d+1) ty (a.ev J) (b.ev J)).run P w=.ok (e.ev J).toB w:=by
 unfold Zfi at h;split at h
 ·rename_i k0 k x k' y ht;simp only[Option.ite_none_right_eq_some,Option.some.injEq]at h;obtain⟨rfl,rfl⟩:=h;obtain⟨u,hu,ht⟩:=hT.tag ht;have:=Zcf ht;subst this;refine⟨_,hu,rfl,?_⟩;simp only[Sc.ev,Zfj d ty _ _ _ _ hu,X.ev,V.toB_b];first|rfl|(congr 1;rw[Bool.eq_iff_iff];simp;done)
 ·rename_i x y ht;simp only[Option.some.injEq]at h;subst h;obtain⟨u,hu,ht⟩:=hT.tag ht;have:=Zce ht;subst this;refine⟨_,hu,rfl,?_⟩;simp only[Sc.ev,Z5a d ty _ _ hu,X.ev,V.toB_b];first|rfl|(congr 1;rw[Bool.eq_iff_iff];simp;done)
 ·rename_i x y ht;simp only[Option.some.injEq]at h;subst h;obtain⟨u,hu,ht⟩:=hT.tag ht;have:=Z68 ht;subst this;refine⟨_,hu,rfl,?_⟩;simp only[Sc.ev,Zfk d ty _ _ hu,X.ev,V.toB_b]
 ·cases h
theorem Zkm(hT:Z9o P T){d:Nat}{cs ds:List Sc}:∀{fl:List (Nat×Nat×Nat×Bool)} {fs:List Field} {e:X},fl.length=fs.length -> (∀(n:Nat) p,fl[n]?=some p->∃f,fs[n]?=some f/\f.offset=p.1/\f.type=p.2.1/\(f.name ≠ "_"))->Zdo T cs ds fl=some e -> (Op.eqFields (d+1) (cs.map (Sc.ev J)).toArray (ds.map (Sc.ev J)).toArray fs).run P w=.ok (e.ev J).toB w:=by
 intro fl;induction fl with
 | nil =>
  intro fs e hl _ h;simp[Zdo]at h;subst h;cases fs
  ·simp[Op.eqFields,X.ev]
  ·simp at hl
 | cons p fl ih =>
  intro fs e hl hp h;obtain⟨off,ty,sz,ag⟩:=p;cases fs with
  | nil=>simp at hl
  | cons f fs =>
   simp only[Zdo,Option.bind_eq_bind,Option.bind_eq_some_iff,Option.some.injEq]at h;obtain⟨a,ha,b,hb,e1,he1,e2,he2,rfl⟩:=h;obtain⟨f',hf',h1,h2,h3⟩:=hp 0 _ rfl;simp at hf';subst hf';have h1:f.offset=off:=h1;have h2:f.type=ty:=h2;obtain⟨u,hu,hag,heq⟩:=Ziv (P:=P) (w:=w) (J:=J) (d:=d) hT he1;have hr:=ih (by simpa using hl) (λn p hn=>by simpa using hp (n+1) p (by simpa using hn)) he2;rw[Op.eqFields,if_pos h3];simp only[h1,h2,Sem.run_bind,Zdr hu hag ha,Zdr hu hag hb,Result.andThen_ok,heq,Z6o];cases(e1.ev J).toB
   ·simp
   ·simpa using hr
theorem Zgs(hT:Z9o P T){t:Nat}{cs ds:List Sc}{e:X}(h:Zrb T t cs ds=some e) : (Op.equalIn 10000 t (.agg (cs.map (Sc.ev J)).toArray) (.agg (ds.map (Sc.ev J)).toArray)).run P w=.ok (e.ev J).toB w/\P.eqGuardType P.depth t=false:=by
 unfold Zrb at h;split at h
 ·rename_i i hi;split at h
  ·rename_i heq;obtain⟨h1,h2⟩:=(hT.get hi).cmp heq;obtain⟨d,inf,z,hd,-,-,-,-,-,-,-,-,htag,-⟩:=(hT.get hi).ok;split at h
   ·rename_i fl hfl;rw[hfl]at htag;cases d<;>simp only[Z5u]at htag;rename_i fs;obtain⟨t1,t2⟩:=htag;have hfo:P.fieldsOf t=fs:=by simp[Program.fieldsOf,hd]
    refine⟨?_,h2⟩;rw[show(10000:Nat)=9999+1 from rfl,run_equalIn_struct w 9999 t _ _ (by rw[hfo];exact hd) h1,hfo];exact Zkm (d:=9998) hT (by simpa using t1) (λn p hn=>by obtain⟨f,d,i,q1,q2,q3,q4,-⟩:=t2 n p hn;exact⟨f,by simpa using q1,q2,q3,q4⟩) h
   ·cases h
  ·cases h
 ·cases h
theorem Z2y{x y:X}(h:Z51 J (Z6q x y)):(x.ev J).toI<=(y.ev J).toI:=by
 unfold Z6q at h;split at h
 ·rename_i e;subst e;exact Int.le_refl _
 ·split at h
  ·rename_i a b ha hb;have:=X.hi_ok J x a ha;have:=X.lo_ok J y b hb;split at h
   ·omega
   ·exact of_decide_eq_true (h _ (qy12.2 rfl))
  ·exact of_decide_eq_true (h _ (qy12.2 rfl))
theorem Z5l{g:Operand->Option CV}{e:Operand->Value}(hg:∀x c,g x=some c->e x=CV.ev J c){d:X}{lo:Option Operand}{l:X}(h:Zcd g d lo=some l) : (∀v,lo.map e=some v->∃k,v=.int k (l.ev J).toI)/\(lo.map e=none->l=d):=by
 cases lo with
 | none=>simp[Zcd]at h;simp[h]
 | some x =>
  simp only[Zcd]at h;split at h
  ·rename_i k l' hx;simp only[Option.some.injEq]at h;subst h;have:=hg _ _ hx;simp only[CV.ev,Sc.ev]at this;simp[this]
  ·cases h
theorem Zo3{src dst:Nat}{k k':IntKind}{n:Int}{d:TypeDesc}(hs:P.underlying src=some d)(hd:P.underlying dst=some (.int k)):(convert src dst (.int k' n)).run P w=.ok (.int k (k.wrap n)) w:=by simp[convert,go_sem,run_underlying hs,run_underlying hd,Conv.intToInt]
theorem Zo4{src dst:Nat}{s:ByteArray}{d:TypeDesc}(hs:P.underlying src=some d)(hd:P.underlying dst=some .string):(convert src dst (.string s)).run P w=.ok (.string s) w:=by cases d<;>simp[convert,go_sem,run_underlying hs,run_underlying hd]
theorem Zbh{t n:Nat}{fs:Array Field}{f:Field}{i:TypeInfo}{a:Addr}(hd:P.underlying t=some (.struct fs))(hf:fs[n]?=some f)(hi:P.info? f.type=some i)(h0:i.size≠0) : (Instr.fieldAt t (.pointer (some a)) n).run P w=.ok (.pointer (some (a.add f.offset))) w:=by simp[Instr.fieldAt,go_sem,run_underlying hd,hf,hi,fieldPlace,sizeOf,typeInfo,h0,Instr.sureAddr]
theorem Zo5{t n:Nat}{fs:Array Field}{f:Field}{cs:Array Value}(hd:P.underlying t=some (.struct fs))(hf:fs[n]?=some f) : (Instr.field t (.agg cs) n).run P w=(part f.type cs f.offset).run P w:=by simp[Instr.field,go_sem,run_underlying hd,hf,asAgg]
theorem Zo6{t off:Nat}{d:TypeDesc}{i:TypeInfo}{cs:Array Value}(hd:P.underlying t=some d)(hi:P.info? t=some i)(hg:Z1d d=true) : (part t cs off).run P w=.ok (.agg (cs.extract off (off+i.size))) w:=by cases d<;>simp[Z1d]at hg<;>simp[part,isAgg,go_sem,run_underlying hd,sizeOf,typeInfo,hi]
theorem Zo7{t off:Nat}{d:TypeDesc}{cs:Array Value}{v:Value}(hd:P.underlying t=some d)(hg:Z1d d=false)(hv:cs[off]?=some v) : (part t cs off).run P w=.ok v w:=by cases d<;>simp[Z1d]at hg<;>simp[part,isAgg,go_sem,run_underlying hd,hv]
theorem Ziw{t e:Nat}{inf:TypeInfo}{ad:Addr}{n cap:Nat}{k:IntKind}{i:Int}(hd:P.underlying t=some (.slice e))(hi:P.info? e=some inf)(h0:0<=i)(h1:i<n) : (Instr.indexAt t (.slice (some ad) n cap) (.int k i)).run P w=.ok (.pointer (some (ad.add (i.toNat*inf.size)))) w:=by simp[Instr.indexAt,asIntOf,go_sem,run_underlying hd,sizeOf,typeInfo,hi,h0,h1]
theorem Zo8{t:Nat}{fs:Array Field}{inf:TypeInfo}{z:Value}{fl:List (Nat×Nat×Nat×Bool)}{zs cs:List Sc}{parts:Array (Nat×Operand)}{e:Operand->Value}{ps:List (Nat×CV)} (hd:P.underlying t=some (.struct fs)) (hi:P.info? t=some inf) (hz:inf.zero=some z) (hz0:z.cells=(zs.map (Sc.ev J)).toArray) (hpl:∀G:Field->Sem (Nat×Nat),(∀f i,P.info? f.type=some i->(G f).run P w=.ok (f.offset,i.size) w)->(fs.mapM G).run P w=.ok (fl.map λp=>(p.1,p.2.2.1)).toArray w) (hparts:parts.map (λ(p:Nat×Operand)=>(p.1,e p.2))=(ps.map λp=>(p.1,CV.ev J p.2)).toArray) (hfill:Instr.fill (λn=>((fl.map λp=>(p.1,p.2.2.1)).toArray)[n]?) (zs.map (Sc.ev J)).toArray (ps.map λp=>(p.1,CV.ev J p.2))=some (cs.map (Sc.ev J)).toArray) : (Instr.build t (parts.map λ(p:Nat×Operand)=>(p.1,e p.2))).run P w=.ok (CV.ev J (true,cs)) w:=by
 have h:=hpl (λf=>do pure (f.offset,<- sizeOf f.type)) (λf i hi=>by simp[go_sem,sizeOf,typeInfo,hi]);rw[hparts];have e1:(zeroValue t).run P w=.ok z w:=by simp[go_sem,zeroValue,typeInfo,hi,hz]
 have e2:=run_underlying hd w;have e3:∀(k:Sem Value) (x:Option (Array Value)) (y:Array Value),x=some y->(match x with|some cells=>(pure (.agg cells):Sem Value)|_=>k).run P w=.ok (.agg y) w:=by rintro k _ y rfl;simp[go_sem]
 unfold Instr.build;rw[Sem.run_bind,e1];simp only[Result.andThen];rw[Sem.run_bind,e2];simp only[Result.andThen];rw[Sem.run_bind,h];simp only[Result.andThen,List.toList_toArray,hz0];exact e3 _ _ _ hfill
theorem Zgt(hT:Z9o P T)(hr:Hold J hp w){t e v:Nat}{p:List Kd×X}(ht:T.tag t=some (.slice e))(hf:Zq hp v=some p) : P.underlying t=some (.slice e)/\∃a n c,(J.getD v (.i 0)).toV=.slice a n c:=by obtain⟨d,hd,ht⟩:=hT.tag ht;have:=Z1i ht;subst this;obtain⟨ks,r⟩:=p;obtain⟨_,a,cap,hv,_⟩:=Z27 hr hf;exact⟨hd,a,_,cap,hv⟩
theorem Zkn(hT:Z9o P T)(hr:Hold J hp w){g:Operand->Option CV}{e:Operand->Value}(hg:∀x c,g x=some c->e x=CV.ev J c) {o:Oper} {ns:List X} {c:CV} (h:Zkg T hp g o.op=some (ns,c)) (hn:Z51 J ns):(execOp e o).run P w=.ok (.value (CV.ev J c)) w:=by
 obtain⟨dst,op,ty,pos,after,guard⟩:=o;simp only[]at h;unfold Zkg at h;split at h
 ·
  simp only[Option.map_eq_some_iff,Prod.mk.injEq]at h;obtain⟨c',hc,rfl,rfl⟩:=h;simp[execOp,go_sem,hg _ _ hc]
 ·
  simp only[Option.map_eq_some_iff,Prod.mk.injEq]at h;obtain⟨c',hc,rfl,rfl⟩:=h;simp[execOp,go_sem,hg _ _ hc]
 ·
  split at h
  ·rename_i hc;simp only[Option.some.injEq,Prod.mk.injEq]at h;obtain⟨rfl,rfl⟩:=h;have:=hg _ _ hc;simp[execOp,go_sem,this,CV.ev,Sc.ev]
  ·cases h
 ·
  split at h
  ·rename_i a b hx hy;have hx:=hg _ _ hx;have hy:=hg _ _ hy;simp only[CV.ev,Sc.ev]at hx hy;split at h
   ·rename_i ht;simp only[Option.some.injEq,Prod.mk.injEq]at h;obtain⟨rfl,rfl⟩:=h;obtain⟨d,hd,ht⟩:=hT.tag ht;have:=Zce ht;subst this;refine runv ?_;simp only[hx,hy,Zo1 _ _ _ _ _ hd,CV.ev,Sc.ev,X.ev,V.toB_b];rfl
   ·rename_i ht;simp only[Option.some.injEq,Prod.mk.injEq]at h;obtain⟨rfl,rfl⟩:=h;obtain⟨d,hd,ht⟩:=hT.tag ht;have:=Zce ht;subst this;refine runv ?_;simp only[hx,hy,Zo2 _ _ _ _ _ hd,CV.ev,Sc.ev,X.ev,V.toB_b];rfl
   ·cases h
  ·rename_i a hx hy;have hx:=hg _ _ hx;have hy:=hg _ _ hy;simp only[CV.ev,Sc.ev]at hx hy;split at h
   ·rename_i e v ht hx0;simp only[Option.map_eq_some_iff,Prod.mk.injEq]at h;obtain⟨p,hf,rfl,rfl⟩:=h;obtain⟨hd,a,n,c,hv⟩:=Zgt hT hr ht hf;simp only[X.ev,hv,Z9n]at hx;refine runv ?_;simp only[hx,hy,CV.ev,Sc.ev,X.ev,V.toB_b,hv];have e1:=Lib.run_eql_slice_nil (P:=P) w _ _ a n c 0 0 hd;cases a<;>simp[Go.eqGuard,go_sem,e1]
   ·rename_i e v ht hx0;simp only[Option.map_eq_some_iff,Prod.mk.injEq]at h;obtain⟨p,hf,rfl,rfl⟩:=h;obtain⟨hd,a,n,c,hv⟩:=Zgt hT hr ht hf;simp only[X.ev,hv,Z9n]at hx;refine runv ?_;simp only[hx,hy,CV.ev,Sc.ev,X.ev,V.toB_b,hv];have e1:=run_neq_slice_nil (P:=P) w _ _ a n c hd;cases a<;>simp[Go.eqGuard,go_sem,e1]
   ·cases h
  ·rename_i a b _ _ hx hy;have hx:=hg _ _ hx;have hy:=hg _ _ hy;simp only[CV.ev]at hx hy;refine runv ?_;simp only[hx,hy];exact Zny h hn _ _ _
  ·rename_i cs ds hx hy;have hx:=hg _ _ hx;have hy:=hg _ _ hy;simp only[CV.ev]at hx hy;split at h
   ·rename_i e he;simp only[Option.some.injEq,Prod.mk.injEq]at h;obtain⟨rfl,rfl⟩:=h;obtain⟨h1,h2⟩:=Zgs (P:=P) (w:=w) (J:=J) hT he;refine runv ?_;simp only[hx,hy];rw[Sem.run_bind,run_eqGuard_agg w _ _ _ _ _ _ h2,Result.andThen_ok,run_eql_struct,h1];rfl
   ·rename_i e he;simp only[Option.some.injEq,Prod.mk.injEq]at h;obtain⟨rfl,rfl⟩:=h;obtain⟨h1,h2⟩:=Zgs (P:=P) (w:=w) (J:=J) hT he;refine runv ?_;simp only[hx,hy];rw[Sem.run_bind,run_eqGuard_agg w _ _ _ _ _ _ h2,Result.andThen_ok,run_neq_struct,h1];simp only[Result.andThen_ok,CV.ev,Sc.ev,Z4e]
   ·cases h
  ·cases h
 ·
  split at h
  ·rename_i a hc;simp only[Option.some.injEq,Prod.mk.injEq]at h;obtain⟨rfl,rfl⟩:=h;have:=hg _ _ hc;simp only[CV.ev,Sc.ev]at this;refine runv ?_;simp[this,Op.unary,go_sem,CV.ev,Sc.ev,Z4e]
  ·cases h
 ·
  split at h
  ·rename_i k a hc;simp only[Option.some.injEq,Prod.mk.injEq]at h;obtain⟨rfl,rfl⟩:=h;have:=hg _ _ hc;simp only[CV.ev,Sc.ev]at this;refine runv ?_;simp only[CV.ev,Sc.ev,Z59 hn];simp[this,Op.unary,Op.intArith,go_sem,X.ev]
  ·cases h
 ·
  split at h
  ·rename_i i k k' a hs ht hc;simp only[Option.some.injEq,Prod.mk.injEq]at h;obtain⟨rfl,rfl⟩:=h;have:=hg _ _ hc;simp only[CV.ev,Sc.ev]at this;obtain⟨d,hd,ht⟩:=hT.tag ht;have:=Zcf ht;subst this;obtain⟨d',_,_,hd',-⟩:=(hT.get hs).ok;refine runv ?_;simp only[CV.ev,Sc.ev,Z59 hn,this];exact Zo3 hd' hd
  ·rename_i i a hs ht hc;simp only[Option.some.injEq,Prod.mk.injEq]at h;obtain⟨rfl,rfl⟩:=h;have:=hg _ _ hc;simp only[CV.ev,Sc.ev]at this;obtain⟨d,hd,ht⟩:=hT.tag ht;have:=Z68 ht;subst this;obtain⟨d',_,_,hd',-⟩:=(hT.get hs).ok;refine runv ?_;simp only[this];exact Zo4 hd' hd
  ·cases h
 ·
  split at h
  ·rename_i x lo hi _ _ a ht hc;have hx:=hg _ _ hc;simp only[CV.ev,Sc.ev]at hx;obtain⟨d,hd,ht⟩:=hT.tag ht;have:=Z68 ht;subst this;split at h
   ·rename_i l u hl hu;simp only[Option.some.injEq,Prod.mk.injEq]at h;obtain⟨rfl,rfl⟩:=h;obtain⟨n1,n23⟩:=hn.app;obtain⟨n2,n3⟩:=n23.app;obtain⟨l1,l2⟩:=Z5l hg hl;obtain⟨u1,u2⟩:=Z5l hg hu;refine runv ?_;simp only[hx,CV.ev,Sc.ev,X.ev,V.toS_s,Option.map_none];refine Znz (a:=(l.ev J).toI) (b:=(u.ev J).toI) hd l1 u1 (λh=>by rw[l2 h];rfl) (λh=>by rw[u2 h];rfl) (Zy n1) (Z2y n2) (Z2y n3)
   ·cases h
  ·cases h
 ·
  split at h
  ·rename_i s x f _ _ fl v off ht hc;have hx:=hg _ _ hc;simp only[CV.ev,Sc.ev]at hx;obtain⟨d,hd,ht⟩:=hT.tag ht;obtain⟨fs,rfl,hlen,hfl⟩:=Z6r ht;simp only[Option.bind_eq_bind,Option.bind_eq_some_iff]at h;obtain⟨⟨fo,fty,sz,ag⟩,hf,h⟩:=h;simp only[Option.ite_none_right_eq_some,Option.some.injEq,Prod.mk.injEq]at h;obtain⟨hpos,rfl,rfl⟩:=h;obtain⟨fd,d',i',h1,h2,h3,h4,h5,h6,h7,h8⟩:=hfl _ _ hf;simp only[]at h2 h3 h7 h8;refine runv ?_;simp only[hx,CV.ev,Sc.ev];rw[Zbh hd h1 h6 (by rw[h7];omega),h2];simp[Zbf]
  ·rename_i s x f _ _ fl v esz i c0 ht hc;have hx:=hg _ _ hc;simp only[CV.ev,Sc.ev]at hx;obtain⟨d,hd,ht⟩:=hT.tag ht;obtain⟨fs,rfl,hlen,hfl⟩:=Z6r ht;simp only[Option.bind_eq_bind,Option.bind_eq_some_iff]at h;obtain⟨⟨fo,fty,sz,ag⟩,hf,⟨ks,r⟩,hrow,h⟩:=h;simp only[Option.ite_none_right_eq_some,Option.some.injEq,Prod.mk.injEq]at h;obtain⟨hpos,rfl,rfl⟩:=h;obtain⟨fd,d',i',h1,h2,h3,h4,h5,h6,h7,h8⟩:=hfl _ _ hf;simp only[]at h2 h3 h7 h8;obtain⟨ad,cap,hv,h0,hlt⟩:=hr.toRow hrow hn;refine runv ?_;simp only[hx,CV.ev,Sc.ev,hv];rw[Zbh hd h1 h6 (by rw[h7];omega),h2,Z96,Nat.add_assoc]
  ·cases h
 ·
  split at h
  ·rename_i t x f _ _ fl cs ht hc;have hx:=hg _ _ hc;simp only[CV.ev]at hx;obtain⟨d,hd,ht⟩:=hT.tag ht;obtain⟨fs,rfl,hlen,hfl⟩:=Z6r ht;simp only[Option.bind_eq_bind,Option.bind_eq_some_iff]at h;obtain⟨⟨fo,fty,sz,ag⟩,hf,h⟩:=h;obtain⟨fd,d',i',h1,h2,h3,h4,h5,h6,h7,h8⟩:=hfl _ _ hf;simp only[]at h2 h3 h7 h8;refine runv ?_;simp only[hx];rw[Zo5 hd h1];split at h
   ·rename_i hag;simp only[Option.some.injEq,Prod.mk.injEq]at h;obtain⟨rfl,rfl⟩:=h;rw[h2];rw[Zo6 h5 h6 (by rw[h8];exact hag),h7];simp[CV.ev,List.extract_eq_take_drop,List.map_take,List.map_drop]
   ·rename_i hag;simp only[Option.bind_eq_some_iff,Option.some.injEq,Prod.mk.injEq]at h;obtain⟨c',hc',rfl,rfl⟩:=h;rw[h2];rw[Zo7 h5 (by rw[h8];simpa using hag) (v:=c'.ev J) (by simp[hc'])];rfl
  ·cases h
 ·
  split at h
  ·rename_i t x i _ _ _ e v k ix ht hc hi;have hx:=hg _ _ hc;have hix:=hg _ _ hi;simp only[CV.ev,Sc.ev,X.ev]at hx hix;obtain⟨d,hd,ht⟩:=hT.tag ht;have:=Z1i ht;subst this;simp only[Option.bind_eq_bind,Option.bind_eq_some_iff]at h;obtain⟨ei,hei,⟨ks,r⟩,hrow,h⟩:=h;simp only[Option.ite_none_right_eq_some,Option.some.injEq,Prod.mk.injEq]at h;obtain⟨hks,rfl,rfl⟩:=h;obtain⟨_,inf,z,-,hinf,hsz,-⟩:=(hT.get hei).ok;obtain⟨ad,cap,hv,h0,hlt⟩:=hr.toRow hrow hn;refine runv ?_;simp only[hx,hix,CV.ev,Sc.ev,hv,Z9n];rw[Ziw hd hinf h0 hlt,hsz,hks];simp
  ·cases h
 ·
  split at h
  ·rename_i t x i _ _ _ a k ix ht hc hi;have hx:=hg _ _ hc;have hix:=hg _ _ hi;simp only[CV.ev,Sc.ev]at hx hix;obtain⟨d,hd,ht⟩:=hT.tag ht;have:=Z68 ht;subst this;simp only[Option.some.injEq,Prod.mk.injEq]at h;obtain⟨rfl,rfl⟩:=h;obtain⟨n1,n2⟩:=hn.app;have n2:(ix.ev J).toI<(a.ev J).toS.length:=of_decide_eq_true (n2 _ (qy12.2 rfl));refine runv ?_;simp only[hx,hix,CV.ev,Sc.ev,X.ev,V.toI_i];exact Zo0 hd (Zy n1) n2
  ·cases h
 ·
  split at h
  ·rename_i t parts _ ag ks zs bytes fl eqs ht;simp only[Option.bind_eq_bind,Option.bind_eq_some_iff,Option.some.injEq,Prod.mk.injEq]at h;obtain⟨ps,hps,cs,hcs,rfl,rfl⟩:=h;obtain⟨d,inf,z,hd,hinf,-,-,hz,hzc,hzb,-,-,htag,-,-⟩:=(hT.get ht).ok;obtain⟨fs,rfl,hlen,hfl⟩:=Z6r htag;refine runv ?_;have hfill:=Zkk (J:=J) (fl:=fl) (place:=λn=>((fl.map λp=>(p.1,p.2.2.1)).toArray)[n]?) (λn p hp=>by simp[hp]) ps zs cs hcs;have hpl:=λG hG=>Zkl (P:=P) w hfl hlen G hG;have hparts:parts.map (λ(p:Nat×Operand)=>(p.1,e p.2))=(ps.map λp=>(p.1,CV.ev J p.2)).toArray:=by
    have:=Zbg hg _ _ hps;apply Array.ext';simpa using this
   have hz0:z.cells=(zs.map (Sc.ev J)).toArray:=by apply Array.ext';rw[hzc,Z21 (J:=[]) (J':=J) (n:=0) (λk hk=>by omega) zs hzb]
   exact Zo8 hd hinf hz hz0 hpl hparts hfill
  ·cases h
 ·
  split at h
  ·
   rename_i c _ _ _ x t hcal hargs htys;obtain⟨callee,args,argTypes⟩:=c;obtain⟨args⟩:=args;obtain⟨argTypes⟩:=argTypes;simp only[]at hcal hargs htys;subst hcal hargs htys;split at h
   ·rename_i a ht hc;have hx:=hg _ _ hc;simp only[CV.ev,Sc.ev]at hx;obtain⟨d,hd,ht⟩:=hT.tag ht;have:=Z68 ht;subst this;simp only[Option.some.injEq,Prod.mk.injEq]at h;obtain⟨rfl,rfl⟩:=h;simp[Builtin.len_,go_sem,hx,run_underlying hd,CV.ev,Sc.ev,X.ev,goInt]
   ·rename_i e' v ht hc;have hx:=hg _ _ hc;simp only[CV.ev,Sc.ev,X.ev]at hx;obtain⟨d,hd,ht⟩:=hT.tag ht;have:=Z1i ht;subst this;simp only[Option.bind_eq_bind,Option.bind_eq_some_iff,Option.some.injEq,Prod.mk.injEq]at h;obtain⟨⟨ks,r⟩,hrow,rfl,rfl⟩:=h;obtain⟨_,a,cap,hv,_,_⟩:=Z27 hr hrow;rw[hv]at hx;simp[Builtin.len_,go_sem,hx,run_underlying hd,CV.ev,Sc.ev,X.ev,goInt]
   ·rename_i e' ht hc;have hx:=hg _ _ hc;simp only[CV.ev,Sc.ev]at hx;obtain⟨d,hd,ht⟩:=hT.tag ht;have:=Z1i ht;subst this;simp only[Option.some.injEq,Prod.mk.injEq]at h;obtain⟨rfl,rfl⟩:=h;simp[Builtin.len_,go_sem,hx,run_underlying hd,CV.ev,Sc.ev,X.ev,goInt]
   ·cases h
  ·
   rename_i c _ _ _ x y hcal hargs;obtain⟨callee,args,argTypes⟩:=c;obtain⟨args⟩:=args;simp only[]at hcal hargs;subst hcal hargs;split at h
   ·rename_i hc hc';have hx:=hg _ _ hc;have hy:=hg _ _ hc';simp only[CV.ev,Sc.ev]at hx hy;simp only[Option.some.injEq,Prod.mk.injEq]at h;obtain⟨rfl,rfl⟩:=h;simp[Builtin.min_,Builtin.min2,go_sem,hx,hy,CV.ev,Sc.ev,X.ev]
   ·cases h
  ·cases h
 ·
  split at h
  ·rename_i hc;have hx:=hg _ _ hc;simp only[CV.ev]at hx;refine runv ?_;simp only[hx];exact Zdp hT hr h hn
  ·cases h
 ·cases h
