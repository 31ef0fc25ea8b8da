/- By an AI agent. -/
import Derived.WalkKit
import Derived.WalkSpells
import Derived.WalkLawsBesides
set_option linter.all false
set_option maxHeartbeats 20000000
set_option maxRecDepth 100000
open Option renaming some→ϐ,bind_eq_some_iff→ϒ,none→ϔ,bind_eq_bind→ϗ,map_eq_some_iff→Ϙ,some→Ϛ,ite_none_right_eq_some→Ϟ,pure_def→Ϡ
open Bool renaming false→ϑ,and_eq_true→ϕ,true→ϖ,eq_iff_iff→Ϧ,or_eq_true→ϩ
open Go renaming Value→ϓ,World→ϙ
open List renaming all_eq_true→Ϝ,getElem?_map→Ϣ,eq_nil_of_length_eq_zero→ϣ,getD_cons_succ→Ϥ,getElem?_append_left→ϥ,map_congr_left→ϧ,mem_cons→Ϩ,map_cons→Ϫ
abbrev By:=List UInt8
theorem _root_.O{p:Prop}(h:p:=by omega):p:=h
theorem _root_.U{p:Prop}(h:p:=by decide):p:=h
theorem _root_.O1{p:Prop}(h:p:=by simp):p:=h
theorem _root_.O2{p:Prop}(h:p:=by kernel_rfl):p:=h
theorem _root_.O3{p:Prop}(h:p:=by simp;omega):p:=h
theorem _root_.O4{p:Prop}(h:p:=by simp only;omega):p:=h
theorem _root_.O5{p:Prop}(h:p:=by assumption):p:=h
theorem _root_.O6{p:Prop}(h:p:=by trivial):p:=h
theorem _root_.O7{p:Prop}(h:p:=by simp[Act.eval,Act.put]):p:=h
theorem _root_.O8{p:Prop}(h:p:=by exact hput _ _):p:=h
theorem _root_.O9{p:Prop}(h:p:=by decide +kernel):p:=h
def _root_.ϛ.{u}:=@if_neg.{u}
def _root_.ϝ.{u}:=@if_pos.{u}
def _root_.ϟ.{u}:=@absurd.{u}
def _root_.ϡ:=@decide_eq_true_eq
namespace Go.Sx
section
universe u v
variable {α:Type u} {β:Type v}
theorem _root_.qF{b c:α}{a:Option α}(h:a=ϐ b)(e:b=c):a=ϐ c:=by rw[h,e]
theorem qy1{l:List α}{i:Nat}{a:α}:l.getD i a=l[i]?.getD a:=List.getD_eq_getElem?_getD
theorem qy2{p:α->Prop}{a:α}{l:List α}:(∀(x:α),x∈a::l->p x)↔p a/\∀(x:α),x∈l->p x:=List.forall_mem_cons
theorem qy3{as:List α}(f:α->β):(List.map f as).length=as.length:=List.length_map f
theorem qy4(n:Nat):((n:Nat):Int).toNat=n:=rfl
theorem qy5(p:α->Prop)(x:α):x∈[]->p x:=List.forall_mem_nil p x
theorem qy6{l:List α}{i:Nat}{a:α}:l[i]?=ϐ a->a∈l:=List.mem_of_getElem?
theorem qy7{l:List α}{i:Nat}(h:i<l.length):l[i]?=ϐ l[i]:=List.getElem?_eq_getElem h
theorem qy8{a:α}{l:List α}:a∈a::l:=List.mem_cons_self
theorem qy9{a:Prop}:¬¬a↔a:=Classical.not_not
theorem qy10(y:α){a:α}{l:List α}:a∈l->a∈y::l:=List.mem_cons_of_mem y
theorem qy11{as bs:List α}:(as++bs).length=as.length+bs.length:=List.length_append
theorem qy12{a b:α}:a∈[b]↔a=b:=List.mem_singleton
theorem qy13{a:α}{s t:List α}:a∈s++t↔a∈s\/a∈t:=List.mem_append
end
end Go.Sx
namespace Go.Sx
open Go
structure Mod(fp:List Nat)(w w':ϙ):Prop where
 os:w'.os=w.os
 tape:w'.tape=w.tape
 output:w'.output=w.output
 size:w.heap.size<=w'.heap.size
 block:∀k,k<w.heap.size->k ∉ fp->w'.heap[k]?=w.heap[k]?
def Mod.refl(fp:List Nat)(w:ϙ):Mod fp w w:=⟨rfl,rfl,rfl,Nat.le_refl _,λ_ _ _=>rfl⟩
def Mod.trans{fp fp':List Nat}{a b c:ϙ}(h:Mod fp a b)(h':Mod fp' b c)(hs:∀k,k∈fp'->k∈fp\/a.heap.size<=k):Mod fp a c :=
 ⟨h'.os.trans h.os,h'.tape.trans h.tape,h'.output.trans h.output,Nat.le_trans h.size h'.size,λk hk hn=>by rw[h'.block k (Nat.lt_of_lt_of_le hk h.size) (λhm=>by rcases hs k hm with h1|h1;exact hn h1;omega),h.block k hk hn]⟩
variable{w':ϙ}
def Mod.of_below{w:ϙ}(h:RowKit.Below w.heap.size w w'):Mod [] w w':=⟨h.os,h.tape,h.output,h.size,λk hk _=>h.block k hk⟩
def Mod.alloc(fp:List Nat)(w:ϙ)(o:Obj):Mod fp w (w.alloc o):=⟨rfl,rfl,rfl,O1,λk hk _=>RowKit.Below.heap_alloc _ _ _ hk⟩
def Mod.drew(fp:List Nat)(w:ϙ):Mod fp w w.drew:=⟨rfl,rfl,rfl,Nat.le_refl _,λ_ _ _=>rfl⟩
def Mod.setCell{fp:List Nat}(w:ϙ)(a:Addr)(v:ϓ)(h:a.block∈fp\/w.heap.size<=a.block):Mod fp w (w.setCell a v) :=
 ⟨rfl,rfl,rfl,O1,λk hk hn=>RowKit.Below.heap_setCell _ _ _ _ (by rintro rfl;rcases h with h|h;exact hn h;omega)⟩
def Mod.mono{fp fp':List Nat}{w:ϙ}(h:Mod fp w w')(hs:∀k,k∈fp->k∈fp'\/w.heap.size<=k):Mod fp' w w' :=
 ⟨h.os,h.tape,h.output,h.size,λk hk hn=>h.block k hk (λhm=>by rcases hs k hm with h1|h1;exact hn h1;omega)⟩
def Mod.of_grown{w:ϙ}{row:Option Nat}{fp:List Nat}(h:w.grownBy w' row)(hr:∀k,row=ϐ k->k∈fp\/w.heap.size<=k):Mod fp w w' :=
 ⟨h.os,h.tape,h.output,h.size,λk hk hn=>h.block k hk (λe=>by rcases hr k e.symm with h1|h1;exact hn h1;omega)⟩
structure Asrt where
 holds:ϙ->Prop
 fp:Nat->Prop
 stable:∀w w',(∀k,fp k->w'.heap[k]?=w.heap[k]?)->holds w->holds w'
 bound:∀w,holds w->∀k,fp k->k<w.heap.size
inductive V
 | i (n:Int)|b (v:Bool)|s (l:List UInt8)|n (k:Nat)|v (x:ϓ)|r (xs:List (List ϓ))|l (xs:List ϓ)|a (A:Asrt)
def V.toI:V->Int | .i z=>z|_=>0
def V.toB:V->Bool | .b z=>z|_=>ϑ
def V.toS:V->By | .s z=>z|_=>[]
def V.toN:V->Nat | .n z=>z|_=>0
def V.toV:V->ϓ | .v z=>z|_=>undef
def V.toR:V->List (List ϓ) | .r z=>z|_=>[]
def V.toL:V->List ϓ | .l z=>z|_=>[]
@[simp] theorem V.toI_i(n:Int):(V.i n).toI=n:=rfl
@[simp] theorem V.toB_b(n:Bool):(V.b n).toB=n:=rfl
@[simp] theorem V.toS_s(n:By):(V.s n).toS=n:=rfl
@[simp] theorem V.toN_n(n:Nat):(V.n n).toN=n:=rfl
@[simp] theorem V.toV_v(n:ϓ):(V.v n).toV=n:=rfl
@[simp] theorem V.toR_r(n:List (List ϓ)):(V.r n).toR=n:=rfl
@[simp] theorem V.toL_l(n:List ϓ):(V.l n).toL=n:=rfl
def Value.gI:ϓ->Int | .int _ n=>n|_=>0
def Value.gB:ϓ->Bool | .bool n=>n|_=>ϑ
def Value.gS:ϓ->By | .string s=>s.data.toList|_=>[]
def Zaa(k n:Nat):ϓ->ϓ
 | .slice va len cap=>.slice (if cap=n then va else va.map (·.add (n*k))) (len - n) (cap - n)
 | v=>v
def sc1(v:ϓ):ϓ:=match v with | .agg _ | .tuple _=>.pointer ϔ|v=>v
def Z2l(op:BinOp)(k:IntKind)(x y:Int):Int :=
 let a:=BitVec.ofInt k.bits x
 let b:=BitVec.ofInt k.bits y
 match op with
 | .and=>k.wrap (a &&& b).toNat
 | .or=>k.wrap (a ||| b).toNat
 | .xor=>k.wrap (a ^^^ b).toNat
 | _=>k.wrap (a &&& ~~~b).toNat
inductive X
 | I (n:Int)|B (v:Bool)|S (l:List UInt8)|var (n:Nat)
 | add (x y:X)|sub (x y:X)|mul (x y:X)|quo (x y:X)|rem (x y:X)|min (x y:X)|ediv (x y:X)|emod (x y:X)
 | wrap (k:IntKind) (x:X)|shl (k:IntKind) (x y:X)|shr (k:IntKind) (x y:X)|bits (op:BinOp) (k:IntKind) (x y:X)
 | len (x:X)|at_ (x i:X)|sl (x lo hi:X)|cat (x y:X)|ofR (x:X)
 | lt (x y:X)|le (x y:X)|eqI (x y:X)|eqB (x y:X)|eqS (x y:X)|not (x:X)|and (x y:X)|or (x y:X)|ite (c x y:X)|less (x y:X)
 | rlen (x:X)|rI (x i:X) (c:Nat)|rB (x i:X) (c:Nat)|rS (x i:X) (c:Nat)|rV (x i:X) (c:Nat)
 | rOf (x:X)|nilR|snocR (x y:X)|catR (x y:X)|takeR (x n:X)|dropR (x n:X)
 | nilL|consI (k:IntKind) (x y:X)|consB (x y:X)|consS (x y:X)|consV (x y:X)
 | rRow (x i:X)|nilS|setR (x i y:X)|nilP|ptrX (v off:Nat)|isnil (x:X)|subS (k:Nat) (x lo:X)|clrR (x lo y:X)
 deriving DecidableEq,Repr,Inhabited
def X.ev(J:List V):X->V
 | .I n=>.i n
 | .B v=>.b v
 | .S l=>.s l
 | .var n=>J.getD n (.i 0)
 | .add x y=>.i ((x.ev J).toI+(y.ev J).toI)
 | .sub x y=>.i ((x.ev J).toI - (y.ev J).toI)
 | .mul x y=>.i ((x.ev J).toI*(y.ev J).toI)
 | .quo x y=>.i ((x.ev J).toI.tdiv (y.ev J).toI)
 | .rem x y=>.i ((x.ev J).toI.tmod (y.ev J).toI)
 | .ediv x y=>.i ((x.ev J).toI / (y.ev J).toI)
 | .emod x y=>.i ((x.ev J).toI % (y.ev J).toI)
 | .min x y=>.i (if(y.ev J).toI<(x.ev J).toI then(y.ev J).toI else(x.ev J).toI)
 | .wrap k x=>.i (k.wrap (x.ev J).toI)
 | .shl k x y=>.i (k.wrap ((x.ev J).toI*2 ^ (Nat.min (y.ev J).toI.toNat k.bits)))
 | .shr k x y=>.i ((x.ev J).toI.fdiv (2 ^ (Nat.min (y.ev J).toI.toNat k.bits)))
 | .bits op k x y=>.i (Z2l op k (x.ev J).toI (y.ev J).toI)
 | .len x=>.i ((x.ev J).toS.length)
 | .at_ x i=>.i ((((x.ev J).toS.getD (i.ev J).toI.toNat 0).toNat:Nat):Int)
 | .sl x lo hi=>.s (((x.ev J).toS.take (hi.ev J).toI.toNat).drop (lo.ev J).toI.toNat)
 | .cat x y=>.s ((x.ev J).toS++(y.ev J).toS)
 | .ofR x=>.s ((x.ev J).toR.map λr=>UInt8.ofNat (Value.gI (r.getD 0 undef)).toNat)
 | .lt x y=>.b (decide ((x.ev J).toI<(y.ev J).toI))
 | .le x y=>.b (decide ((x.ev J).toI<=(y.ev J).toI))
 | .eqI x y=>.b (decide ((x.ev J).toI=(y.ev J).toI))
 | .eqB x y=>.b (decide ((x.ev J).toB=(y.ev J).toB))
 | .eqS x y=>.b (decide ((x.ev J).toS=(y.ev J).toS))
 | .less x y=>.b (Op.bytesLess (x.ev J).toS (y.ev J).toS)
 | .not x=>.b (!(x.ev J).toB)
 | .and x y=>.b ((x.ev J).toB && (y.ev J).toB)
 | .or x y=>.b ((x.ev J).toB || (y.ev J).toB)
 | .ite c x y=>if(c.ev J).toB then x.ev J else y.ev J
 | .rlen x=>.i ((x.ev J).toR.length)
 | .rI x i c=>.i (Value.gI (((x.ev J).toR.getD (i.ev J).toI.toNat []).getD c undef))
 | .rB x i c=>.b (Value.gB (((x.ev J).toR.getD (i.ev J).toI.toNat []).getD c undef))
 | .rS x i c=>.s (Value.gS (((x.ev J).toR.getD (i.ev J).toI.toNat []).getD c undef))
 | .rV x i c=>.v (((x.ev J).toR.getD (i.ev J).toI.toNat []).getD c undef)
 | .rRow x i=>.l ((x.ev J).toR.getD (i.ev J).toI.toNat [])
 | .rOf x=>.r ((x.ev J).toS.map λb=>[Value.int .u8 (b.toNat:Int)])
 | .nilR=>.r []
 | .snocR x y=>.r ((x.ev J).toR++[(y.ev J).toL])
 | .catR x y=>.r ((x.ev J).toR++(y.ev J).toR)
 | .takeR x n=>.r ((x.ev J).toR.take (n.ev J).toI.toNat)
 | .dropR x n=>.r ((x.ev J).toR.drop (n.ev J).toI.toNat)
 | .nilL=>.l []
 | .consI k x y=>.l (Value.int k (x.ev J).toI::(y.ev J).toL)
 | .consB x y=>.l (Value.bool (x.ev J).toB::(y.ev J).toL)
 | .consS x y=>.l (Value.string ⟨(x.ev J).toS.toArray⟩::(y.ev J).toL)
 | .consV x y=>.l (sc1 (x.ev J).toV::(y.ev J).toL)
 | .nilS=>.v (.slice ϔ 0 0)
 | .nilP=>.v (.pointer ϔ)
 | .ptrX v off=>.v (.pointer (ϐ ⟨(J.getD v (.i 0)).toN,off,ϔ⟩))
 | .isnil x=>.b (match (x.ev J).toV with | .slice ϔ _ _=>ϖ|_=>ϑ)
 | .setR x i y=>.r ((x.ev J).toR.set (i.ev J).toI.toNat (y.ev J).toL)
 | .subS k x lo=>.v (Zaa k (lo.ev J).toI.toNat (x.ev J).toV)
 | .clrR x lo y=>.r ((x.ev J).toR.take (lo.ev J).toI.toNat++List.replicate ((x.ev J).toR.length - (lo.ev J).toI.toNat) (y.ev J).toL)
def X.P(J:List V):X->Prop
 | .B v=>v=ϖ
 | .lt x y=>(x.ev J).toI<(y.ev J).toI
 | .le x y=>(x.ev J).toI<=(y.ev J).toI
 | .eqI x y=>(x.ev J).toI=(y.ev J).toI
 | .eqB x y=>(x.ev J).toB=(y.ev J).toB
 | .eqS x y=>(x.ev J).toS=(y.ev J).toS
 | .not x=>¬X.P J x
 | .and x y=>X.P J x/\X.P J y
 | .or x y=>X.P J x\/X.P J y
 | x=>(x.ev J).toB=ϖ
def X.P_iff(J:List V)(x:X):X.P J x↔(x.ev J).toB=ϖ:=by induction x<;>simp_all [X.P,X.ev]
def X.bd(n:Nat):X->Bool
 | .I _ | .B _ | .S _ | .nilR | .nilL | .nilS | .nilP=>ϖ
 | .var k=>decide (k<n)
 | .ptrX k _=>decide (k<n)
 | .isnil x=>x.bd n
 | .add x y | .sub x y | .mul x y | .quo x y | .rem x y | .min x y | .shl _ x y | .shr _ x y | .bits _ _ x y | .at_ x y | .cat x y | .lt x y | .le x y
 | .eqI x y | .eqB x y | .eqS x y | .and x y | .or x y | .less x y | .snocR x y | .catR x y | .takeR x y | .dropR x y | .consI _ x y | .consB x y | .consS x y | .consV x y | .rRow x y=>x.bd n && y.bd n
 | .wrap _ x | .len x | .ofR x | .not x | .rlen x | .rOf x=>x.bd n
 | .sl x y z | .ite x y z | .setR x y z | .clrR x y z=>x.bd n && y.bd n && z.bd n
 | .rI x i _ | .rB x i _ | .rS x i _ | .rV x i _=>x.bd n && i.bd n
 | .ediv x y | .emod x y | .subS _ x y=>x.bd n && y.bd n
variable{J':List V}{n:Nat}
def X.ev_bd{J:List V}(h:∀k,k<n->J.getD k (.i 0)=J'.getD k (.i 0))(x:X)(hx:x.bd n=ϖ):x.ev J=x.ev J':=by induction x<;>simp_all [X.bd,X.ev]
inductive Sc
 | int (k:IntKind) (x:X)|bool (x:X)|str (x:X)|val (x:X)|ptr (v off:Nat)|eptr (v esz:Nat) (i:X) (c:Nat)|nilp|nils|nilm
 deriving DecidableEq,Repr,Inhabited
def Z1cv(v:ϓ):(sc1 v).oneCell'=ϖ:=by cases v<;>rfl
def Z1bi(v:ϓ)(h:v.oneCell'=ϖ):sc1 v=v:=by cases v<;>first|rfl|(simp[Value.oneCell']at h)
@[simp] theorem Zii(a:Option Addr)(n c:Nat):sc1 (.slice a n c)=.slice a n c:=rfl
def Sc.ev(J:List V):Sc->ϓ
 | .int k x=>.int k (x.ev J).toI
 | .bool x=>.bool (x.ev J).toB
 | .str x=>.string ⟨(x.ev J).toS.toArray⟩
 | .val x=>sc1 (x.ev J).toV
 | .ptr v off=>.pointer (ϐ ⟨(J.getD v (.i 0)).toN,off,ϔ⟩)
 | .eptr v esz i c=>match (J.getD v (.i 0)).toV with
  | .slice (ϐ a) _ _=>.pointer (ϐ (a.add ((i.ev J).toI.toNat*esz+c)))
  | _=>.pointer ϔ
 | .nilp=>.pointer ϔ
 | .nils=>.slice ϔ 0 0
 | .nilm=>.map ϔ
def Sc.ev_one(J:List V)(s:Sc):(s.ev J).oneCell'=ϖ:=by cases s<;>simp only[Sc.ev]<;>first|rfl|exact Z1cv _|(split<;>rfl)
def Sc.bd(n:Nat):Sc->Bool
 | .int _ x | .bool x | .str x | .val x=>x.bd n
 | .ptr v _=>decide (v<n)
 | .eptr v _ i _=>decide (v<n) && i.bd n
 | .nilp | .nils | .nilm=>ϖ
def Z18(n:Nat)(J J':List V):Prop:=∀k,k<n->J.getD k (.i 0)=J'.getD k (.i 0)
def Z18.app(J vs:List V):Z18 J.length J (J++vs):=λk hk=>by simp[ϥ hk]
def Z18.symm{J:List V}(h:Z18 n J J'):Z18 n J' J:=λk hk=>(h k hk).symm
def Z18.trans{J J'':List V}(h:Z18 n J J')(h':Z18 n J' J''):Z18 n J J'':=λk hk=>(h k hk).trans (h' k hk)
def Sc.ev_bd{J:List V}(h:Z18 n J J')(s:Sc)(hs:s.bd n=ϖ):s.ev J=s.ev J':=by
 cases s<;>simp_all [Sc.bd,Sc.ev]
 case int x=>rw[X.ev_bd h x hs]
 case bool x=>rw[X.ev_bd h x hs]
 case str x=>rw[X.ev_bd h x hs]
 case val x=>rw[X.ev_bd h x hs]
 case ptr v off=>have:=h v hs;simp only[qy1]at this;rw[this]
 case eptr v esz i c=>have:=h v hs.1;simp only[qy1]at this;rw[this,X.ev_bd h i hs.2]
abbrev CV:=Bool×List Sc
def CV.ev(J:List V)(c:CV):ϓ :=
 match c with
 | (ϖ,cs)=>.agg (cs.map (Sc.ev J)).toArray
 | (ϑ,[s])=>s.ev J
 | _=>undef
def CV.bd(n:Nat)(c:CV):Bool:=c.2.all (Sc.bd n)
def Z4e{J:List V}(h:Z18 n J J')(cs:List Sc)(hs:cs.all (Sc.bd n)=ϖ):cs.map (Sc.ev J)=cs.map (Sc.ev J') :=
 ϧ λs hm=>Sc.ev_bd h s (Ϝ.1 hs s hm)
def CV.ev_bd{J:List V}(h:Z18 n J J')(c:CV)(hs:CV.bd n c=ϖ):CV.ev J c=CV.ev J' c:=by
 obtain⟨g,cs⟩:=c;have hm:=Z4e h cs hs;cases g
 ·match cs,hs with
  | [],_=>rfl
  | [s],hs=>simp only[CV.bd,List.all_cons,List.all_nil,Bool.and_true]at hs;exact Sc.ev_bd h s hs
  | _::_::_,_=>rfl
 simp only[CV.ev,hm]
inductive SV
 | cv (c:CV)
 | gd (g:X) (c:CV)
 | tup (l:List CV)
 | fn (f:Nat) (first caps:List Sc)
 | dead
 deriving DecidableEq,Repr,Inhabited
def SV.ev(J:List V):SV->ϓ
 | .cv c=>CV.ev J c
 | .tup l=>.tuple (l.map (CV.ev J)).toArray
 | .fn f first caps=>.func (.func f) (first.map (Sc.ev J)).toArray (caps.map (Sc.ev J)).toArray
 | _=>undef
def SV.bd(n:Nat):SV->Bool
 | .cv c=>CV.bd n c
 | .gd g c=>g.bd n && CV.bd n c
 | .tup l=>l.all (CV.bd n)
 | .fn _ first caps=>first.all (Sc.bd n) && caps.all (Sc.bd n)
 | .dead=>ϖ
def SV.rel(J:List V)(s:SV)(x:ϓ):Prop :=
 match s with
 | .dead=>True
 | .gd g c=>((g.ev J).toB=ϖ->x=CV.ev J c)/\((g.ev J).toB=ϑ->x=undef)
 | s=>x=s.ev J
def SV.rel_bd{J:List V}(h:Z18 n J J')(s:SV)(hs:s.bd n=ϖ)(x:ϓ)(hr:s.rel J x):s.rel J' x:=by
 cases s with
 | cv c=>exact(hr).trans (CV.ev_bd h c hs)
 | gd g c =>
  simp only[SV.bd,ϕ]at hs;obtain⟨h1,h2⟩:=hr;exact⟨λhg=>(h1 (by rw[X.ev_bd h g hs.1];exact hg)).trans (CV.ev_bd h c hs.2),λhg=>h2 (by rw[X.ev_bd h g hs.1];exact hg)⟩
 | tup l =>
  refine(hr).trans ?_;simp only[SV.ev]at hs⊢;rw[ϧ λc hm=>CV.ev_bd h c (Ϝ.1 hs c hm)]
 | fn f a b =>
  refine(hr).trans ?_;simp only[SV.ev,SV.bd,ϕ]at hs⊢;rw[Z4e h a hs.1,Z4e h b hs.2]
 | dead=>trivial
inductive Kd
 | int (k:IntKind)|bool|str|sl (e:Nat)|oth
 deriving DecidableEq,Repr,Inhabited
def Kd.ok(k:Kd)(v:ϓ):Prop :=
 match k with
 | .int k=>∃n,v=.int k n
 | .bool=>∃b,v=.bool b
 | .str=>∃l:By,v=.string ⟨l.toArray⟩
 | _=>v.oneCell'=ϖ
def rowOk:List Kd->List ϓ->Prop
 | [],[]=>True
 | k::ks,v::vs=>k.ok v/\rowOk ks vs
 | _,_=>False
def rowOk.length:∀{ks:List Kd} {vs:List ϓ},rowOk ks vs->vs.length=ks.length
 | [],[],_=>rfl
 | _::_,_::_,h=>by simp[rowOk.length h.2]
def rowOk.get:∀{ks:List Kd} {vs:List ϓ},rowOk ks vs->∀{c:Nat} {k:Kd},ks[c]?=ϐ k->∃v,vs[c]?=ϐ v/\k.ok v
 | k::ks,v::vs,h,0,k',hk=>by simp at hk;subst hk;exact⟨v,rfl,h.1⟩
 | k::ks,v::vs,h,c+1,k',hk=>by simpa using h.2.get (by simpa using hk)
variable{v:ϓ}
def Kd.ok.one{k:Kd}(h:k.ok v):v.oneCell'=ϖ:=by cases k<;>simp only[Kd.ok]at h<;>first|exact h|(obtain⟨_,rfl⟩:=h;rfl)
def rowOk.one:∀{ks:List Kd} {vs:List ϓ},rowOk ks vs->∀v∈vs,v.oneCell'=ϖ
 | [],[],_,v,hv=>by simp at hv
 | k::ks,u::vs,h,v,hv=>by
  rcases Ϩ.1 hv with rfl|hv
  ·exact h.1.one
  exact h.2.one v hv
def reads(w:ϙ)(v:ϓ)(ks:List Kd)(rows:List (List ϓ)):Prop :=
 (∀r∈rows,rowOk ks r)/\∃a cap,v=.slice a rows.length cap/\((a=ϔ->cap=0)/\rows.length<=cap) /\
  (rows≠[]->∃ad,a=ϐ ad/\∀j u,rows.flatten[j]?=ϐ u->w.cell? (ad.add j)=ϐ u)
def owns(w:ϙ)(v:ϓ)(ty:Nat)(ks:List Kd)(rows:List (List ϓ)):Prop :=
 (∀r∈rows,rowOk ks r)/\w.ownsRow 0 ty ks.length v rows.length rows.flatten
def Z1(v:ϓ)(k:Nat):Prop:=v.ownBlock=ϐ k
variable{rows:List (List ϓ)}{i:Nat}
def Zcf(h:∀r∈rows,r.length=n){c:Nat}(hc:c<n):rows.flatten[i*n+c]?=(rows[i]?).bind (·[c]?):=by
 induction rows generalizing i with
 | nil=>simp
 | cons r rows ih =>
  have hr:=h r O1;cases i with
  | zero=>simp[ϥ (show c<r.length by omega)]
  | succ i =>
   rw[List.flatten_cons,List.getElem?_append_right (by rw[hr,Nat.succ_mul];omega)];have:(i+1)*n+c - r.length=i*n+c:=by rw[hr,Nat.succ_mul];omega
   rw[this,ih λr hm=>h r (by simp[hm])];simp
def Zk(h:∀r∈rows,r.length=n):rows.flatten.length=rows.length*n:=by
 induction rows with
 | nil=>simp
 | cons r rows ih=>simp[ih λr hm=>h r (by simp[hm]),h r O1,Nat.succ_mul];omega
variable{ty:Nat}{ks:List Kd}
def owns.reads{w:ϙ}(h:owns w v ty ks rows):reads w v ks rows:=by
 obtain⟨h1,h2⟩:=h;refine⟨h1,?_⟩;have h2':=h2;rcases h2'.2 with⟨rfl,hn⟩|⟨g,cap,cur,rfl,-,-,hnc,-,-,-⟩
 ·exact⟨ϔ,0,by rw[hn],⟨λ_=>rfl,by omega⟩,λhne=>ϟ (ϣ hn) hne⟩
 ·exact⟨ϐ ⟨g,0,ϔ⟩,cap,rfl,⟨(λh=>by cases h),hnc⟩,λ_=>⟨_,rfl,λj u hu=>h2.cells (g:=g) rfl j u hu⟩⟩
def reads.get{w:ϙ}(h:reads w v ks rows){c:Nat}(hi:i<rows.length)(hc:c<ks.length): ∃ad cap,v=.slice (ϐ ad) rows.length cap/\w.cell? (ad.add (i*ks.length+c))=ϐ ((rows.getD i []).getD c undef)/\ks[c].ok ((rows.getD i []).getD c undef):=by
 obtain⟨h1,a,cap,rfl,-,h2⟩:=h;obtain⟨ad,rfl,h3⟩:=h2 (λe=>by subst e;simp at hi);have hr:=h1 rows[i] (List.getElem_mem hi);obtain⟨u,hu,hk⟩:=hr.get (qy7 hc);have e:(rows.getD i []).getD c undef=u:=by simp[qy7 hi,hu]
 rw[e];refine⟨ad,cap,rfl,h3 _ _ ?_,hk⟩;rw[Zcf (λr hm=>(h1 r hm).length) hc,qy7 hi];exact hu
inductive Ent
 | cells (v ty:Nat) (cs:List Sc)
 | row (v ty:Nat) (ks:List Kd) (r:X)
 | rd (v:Nat) (ks:List Kd) (r:X)
 | st (v:Nat)
 deriving DecidableEq,Repr,Inhabited
def Ent.wr:Ent->Bool
 | .cells .. | .row ..=>ϖ
 | _=>ϑ
def Ent.bd(n:Nat):Ent->Bool
 | .cells v _ cs=>decide (v<n) && cs.all (Sc.bd n)
 | .row v _ _ r=>decide (v<n) && r.bd n
 | .rd v _ r=>decide (v<n) && r.bd n
 | .st v=>decide (v<n)
def Ent.holds(J:List V)(w:ϙ):Ent->Prop
 | .cells v ty cs=>w.heap[(J.getD v (.i 0)).toN]?=ϐ (.cells (cs.map (Sc.ev J)).toArray ty (0,0))
 | .row v ty ks r=>owns w (J.getD v (.i 0)).toV ty ks (r.ev J).toR
 | .rd v ks r=>reads w (J.getD v (.i 0)).toV ks (r.ev J).toR
 | .st v=>match J.getD v (.i 0)with | .a A=>A.holds w|_=>True
def Ent.fp(J:List V)(k:Nat):Ent->Prop
 | .cells v _ _=>k=(J.getD v (.i 0)).toN
 | .row v _ _ _=>Z1 (J.getD v (.i 0)).toV k
 | .rd v _ r=>(r.ev J).toR.flatten≠[]/\Z1 (J.getD v (.i 0)).toV k
 | .st v=>match J.getD v (.i 0)with | .a A=>A.fp k|_=>False
def Ent.holds_bd{J:List V}(h:Z18 n J J')(e:Ent)(he:e.bd n=ϖ)(w:ϙ):e.holds J w↔e.holds J' w:=by
 cases e<;>simp only[Ent.bd,ϕ,ϡ]at he<;>simp only[Ent.holds]
 case cells v ty cs=>rw[h v he.1,Z4e h cs he.2]
 case row v ty ks r=>rw[h v he.1,X.ev_bd h r he.2]
 case rd v ks r=>rw[h v he.1,X.ev_bd h r he.2]
 case st v=>rw[h v he]
def Ent.fp_bd{J:List V}(h:Z18 n J J')(e:Ent)(he:e.bd n=ϖ)(k:Nat):e.fp J k↔e.fp J' k:=by
 cases e<;>simp only[Ent.bd,ϕ,ϡ]at he<;>simp only[Ent.fp]
 case cells v ty cs=>rw[h v he.1]
 case row v ty ks r=>rw[h v he.1]
 case rd v ks r=>rw[h v he.1,X.ev_bd h r he.2]
 case st v=>rw[h v he]
def Addr.add_block(a:Addr)(j:Nat):(a.add j).block=a.block:=by unfold Addr.add;split<;>rfl
def reads.stable{w:ϙ}(h:reads w v ks rows)(hk:∀k,(rows.flatten≠[]/\Z1 v k)->w'.heap[k]?=w.heap[k]?):reads w' v ks rows:=by obtain⟨h1,a,cap,rfl,h0,h2⟩:=h;refine⟨h1,a,cap,rfl,h0,λhne=>?_⟩;obtain⟨ad,rfl,h3⟩:=h2 hne;refine⟨ad,rfl,λj u hu=>?_⟩;rw[<- h3 j u hu];refine World.cell?_of_block ?_;rw[Addr.add_block];exact hk _ ⟨λe=>by rw[e]at hu;simp at hu,rfl⟩
def owns.stable{w:ϙ}(h:owns w v ty ks rows)(hk:∀k,Z1 v k->w'.heap[k]?=w.heap[k]?):owns w' v ty ks rows:=by
 obtain⟨h1,h2,h3⟩:=h;refine⟨h1,h2,?_⟩;rcases h3 with h3|⟨g,cap,cur,rfl,hb,hg,rest⟩
 ·exact .inl h3
 exact .inr ⟨g,cap,cur,rfl,hb,by rw[hk g rfl];exact hg,rest⟩
variable{e:Ent}
def Ent.stable{J:List V}{w:ϙ}(h:e.holds J w)(hk:∀k,e.fp J k->w'.heap[k]?=w.heap[k]?):e.holds J w':=by
 cases e with
 | cells v ty cs=>exact(hk _ rfl).trans h
 | row v ty ks r=>exact owns.stable h hk
 | rd v ks r=>exact reads.stable h hk
 | st v =>
  simp only[Ent.holds]at h⊢;simp only[Ent.fp]at hk;generalize J.getD v (.i 0)=x at h hk⊢;cases x<;>first|trivial|exact Asrt.stable _ _ _ hk h
def Ent.bound{J:List V}{w:ϙ}(h:e.holds J w){k:Nat}(hk:e.fp J k):k<w.heap.size:=by
 cases e with
 | cells v ty cs=>subst hk;exact(Array.getElem?_eq_some_iff.1 h).1
 | row v ty ks r=>exact(h.2.lt k hk).2
 | rd v ks r =>
  obtain⟨h1,a,cap,hv,-,h2⟩:=h;obtain⟨hne,hb⟩:=hk;obtain⟨ad,rfl,h3⟩:=h2 (λe=>by rw[e]at hne;simp at hne);obtain⟨u,l,hl⟩:=List.exists_cons_of_ne_nil hne;have:=h3 0 u (by rw[hl];rfl);have:=World.block_lt_of_cell? w _ this;rw[Addr.add_block]at this;unfold Z1 at hb;rw[hv]at hb;simp[Value.ownBlock]at hb;omega
 | st v =>
  simp only[Ent.holds]at h;simp only[Ent.fp]at hk;generalize J.getD v (.i 0)=x at h hk;cases x<;>first|exact hk.elim|exact Asrt.bound _ _ h k hk
variable{m:Nat}
def X.bd_mono(h:n<=m)(x:X)(hx:x.bd n=ϖ):x.bd m=ϖ:=by induction x<;>simp_all [X.bd]<;>omega
def Sc.bd_mono(h:n<=m)(s:Sc)(hs:s.bd n=ϖ):s.bd m=ϖ:=by cases s<;>simp only[Sc.bd,ϕ,ϡ]at hs⊢<;>first|exact X.bd_mono h _ hs|omega|exact⟨O,X.bd_mono h _ hs.2⟩
def Z3a(h:n<=m)(cs:List Sc)(hs:cs.all (Sc.bd n)=ϖ):cs.all (Sc.bd m)=ϖ :=
 Ϝ.2 λs hm=>Sc.bd_mono h s (Ϝ.1 hs s hm)
def SV.bd_mono(h:n<=m)(s:SV)(hs:s.bd n=ϖ):s.bd m=ϖ:=by
 cases s with
 | cv c=>exact Z3a h _ hs
 | gd g c=>simp only[SV.bd,ϕ]at hs⊢;exact⟨X.bd_mono h _ hs.1,Z3a h _ hs.2⟩
 | tup l=>exact Ϝ.2 λc hm=>Z3a h _ (Ϝ.1 hs c hm)
 | fn f a b=>simp only[SV.bd,ϕ]at hs⊢;exact⟨Z3a h _ hs.1,Z3a h _ hs.2⟩
 | dead=>rfl
def Ent.bd_mono(h:n<=m)(e:Ent)(he:e.bd n=ϖ):e.bd m=ϖ:=by cases e<;>simp only[Ent.bd,ϕ,ϡ]at he⊢<;>first|omega|exact⟨O,Z3a h _ he.2⟩|exact⟨O,X.bd_mono h _ he.2⟩
structure Base where
 fp:List Nat
 w0:ϙ
def Zt(J:List V)(hp:List Ent):Prop:=hp.Pairwise λe e'=>(e.wr=ϖ\/e'.wr=ϖ)->∀k,e.fp J k->e'.fp J k->False
structure Rel(B:Base)(J:List V)(hp:List Ent)(w:ϙ):Prop where
 mod:Mod B.fp B.w0 w
 holds:∀e∈hp,e.holds J w
 own:∀e∈hp,e.wr=ϖ->∀k,e.fp J k->B.w0.heap.size<=k\/k∈B.fp
 sep:Zt J hp
variable{B:Base}
def Rel.ext{J:List V}{hp:List Ent}{w:ϙ}(h:Rel B J hp w)(ha:Z18 n J J')(hb:hp.all (Ent.bd n)=ϖ):Rel B J' hp w:=by have hb':=Ϝ.1 hb;refine⟨h.mod,λe he=>(Ent.holds_bd ha e (hb' e he) w).1 (h.holds e he),λe he hw k hk=>h.own e he hw k ((Ent.fp_bd ha e (hb' e he) k).2 hk),?_⟩;refine List.Pairwise.imp_of_mem (λ{a b} hma hmb hp hw k h1 h2=>?_) h.sep;exact hp hw k ((Ent.fp_bd ha a (hb' a hma) k).2 h1) ((Ent.fp_bd ha b (hb' b hmb) k).2 h2)
def Rel.sublist{J:List V}{hp hp':List Ent}{w:ϙ}(h:Rel B J hp w)(hs:hp'.Sublist hp):Rel B J hp' w :=
 ⟨h.mod,λe he=>h.holds e (hs.subset he),λe he=>h.own e (hs.subset he),h.sep.sublist hs⟩
def Rel.perm{J:List V}{hp hp':List Ent}{w:ϙ}(h:Rel B J hp w)(hs:hp.Perm hp'):Rel B J hp' w :=
  ⟨h.mod,λe he=>h.holds e (hs.symm.subset he),λe he=>h.own e (hs.symm.subset he),
   (hs.pairwise_iff (λ{x y} hxy hw k hk hk'=>hxy hw.symm k hk' hk)).1 h.sep⟩
def Rel.step{J:List V}{hp:List Ent}{w:ϙ}{fp:List Nat}(h:Rel B J hp w)(hm:Mod fp w w')(hf:∀k∈fp,(B.w0.heap.size<=k\/k∈B.fp))(hd:∀e∈hp,∀k∈fp,¬e.fp J k):Rel B J hp w' :=
  ⟨h.mod.trans hm (λk hk=>by rcases hf k hk with h1|h1;exact .inr h1;exact .inl h1),
   λe he=>Ent.stable (h.holds e he) (λk hk=>hm.block k (Ent.bound (h.holds e he) hk) (λhn=>hd e he k hn hk)),h.own,h.sep⟩
def Rel.cons{J:List V}{hp:List Ent}{w:ϙ}(h:Rel B J hp w)(he:e.holds J w)(ho:e.wr=ϖ->∀k,e.fp J k->B.w0.heap.size<=k\/k∈B.fp)(hd:∀e'∈hp,(e.wr=ϖ\/e'.wr=ϖ)->∀k,e.fp J k->e'.fp J k->False):Rel B J (e::hp) w :=
  ⟨h.mod,λx hx=>by rcases Ϩ.1 hx with rfl|hx;exact he;exact h.holds x hx,
   λx hx=>by rcases Ϩ.1 hx with rfl|hx;exact ho;exact h.own x hx,List.pairwise_cons.2 ⟨hd,h.sep⟩⟩
def Rel.alloc{J:List V}{hp:List Ent}{w:ϙ}(h:Rel B J hp w)(o:Obj):Rel B J hp (w.alloc o) :=
 h.step (Mod.alloc [] w o) O1 O1
def Rel.drew{J:List V}{hp:List Ent}{w:ϙ}(h:Rel B J hp w):Rel B J hp w.drew :=
 h.step (Mod.drew [] w) O1 O1
inductive Tg
 | int (k:IntKind)|bool|str|strct (fl:List (Nat×Nat×Nat×Bool))|slice (e:Nat)|ptr (e:Nat)|tuple (l:List Nat)|other
 deriving DecidableEq,Repr,Inhabited
structure TI where
 agg:Bool
 ks:List Kd
 zs:List Sc
 bytes:Nat
 tag:Tg
 eqs:Bool:=ϑ
 deriving DecidableEq,Repr,Inhabited
def Z2m:TypeDesc->Bool
 | .struct _ | .array _ _=>ϖ
 | _=>ϑ
def Zbz(P:Program):Tg->TypeDesc->Prop
 | .int k,.int k'=>k=k'
 | .bool,.bool=>True
 | .str,.string=>True
 | .strct fl,.struct fs=>fl.length=fs.size/\∀(n:Nat) p,fl[n]?=ϐ p->∃f d i,fs[n]?=ϐ f/\f.offset=p.1/\f.type=p.2.1/\(f.name ≠ "_")/\P.underlying f.type=ϐ d/\P.info? f.type=ϐ i/\i.size=p.2.2.1/\Z2m d=p.2.2.2
 | .slice e,.slice e'=>e=e'
 | .ptr e,.pointer e'=>e=e'
 | .tuple l,.tuple es=>l=es.toList
 | .other,_=>True
 | _,_=>False
structure TIok(P:Program)(t:Nat)(i:TI):Prop where
 ok:∃d inf z,P.underlying t=ϐ d/\P.info? t=ϐ inf/\inf.size=i.ks.length/\inf.bytes=i.bytes/\inf.zero=ϐ z/\z.cells.toList=i.zs.map (Sc.ev [])/\i.zs.all (Sc.bd 0)=ϖ /\
  i.zs.length=i.ks.length/\Z2m d=i.agg/\Zbz P i.tag d/\(i.agg=ϑ->i.zs.length=1)/\z=CV.ev [] (i.agg,i.zs)
 cmp:i.eqs=ϖ->P.stoodInHeld t=ϑ/\P.eqGuardType P.depth t=ϑ
abbrev Tab:=List (Nat×TI)
def Tab.get(T:Tab)(t:Nat):Option TI:=(T.find? λp=>p.1 == t).map (·.2)
def Zij(P:Program)(T:Tab):Prop:=∀p∈T,TIok P p.1 p.2
variable{t:Nat}
def Zij.get{P:Program}{T:Tab}(h:Zij P T){i:TI}(hg:T.get t=ϐ i):TIok P t i:=by unfold Tab.get at hg;rw[Ϙ]at hg;obtain⟨⟨a,b⟩,h1,rfl⟩:=hg;have:=List.find?_some h1;simp at this;subst this;exact h _ (List.mem_of_find?_eq_some h1)
def X.lo:X->Option Int
 | .I n=>ϐ n
 | .at_ _ _=>ϐ 0
 | .len _=>ϐ 0
 | .rlen _=>ϐ 0
 | .add x y=>do pure ((<- x.lo)+(<- y.lo))
 | .emod _ (.I m)=>if 0<m then ϐ 0 else ϔ
 | .wrap .u8 _=>ϐ 0
 | .min x y=>do pure (Min.min (<- x.lo) (<- y.lo))
 | .ite _ x y=>do pure (Min.min (<- x.lo) (<- y.lo))
 | _=>ϔ
def X.hi:X->Option Int
 | .I n=>ϐ n
 | .at_ _ _=>ϐ 255
 | .add x y=>do pure ((<- x.hi)+(<- y.hi))
 | .emod _ (.I m)=>if 0<m then ϐ (m - 1)else ϔ
 | .wrap .u8 _=>ϐ 255
 | .ite _ x y=>do pure (Max.max (<- x.hi) (<- y.hi))
 | _=>ϔ
def wrap_u8(n:Int):IntKind.u8.wrap n=n % 256:=by simp[IntKind.wrap,IntKind.signed,IntKind.bits]
def X.lo_ok(J:List V):∀(x:X) (n:Int),x.lo=ϐ n->n<=(x.ev J).toI:=by
 intro x;induction x with
 | I m=>intro n h;simp[X.lo]at h;simp[X.ev,h]
 | at_ x i _ _=>intro n h;simp[X.lo]at h;simp only[X.ev,V.toI_i];omega
 | len x _=>intro n h;simp[X.lo]at h;simp only[X.ev,V.toI_i];omega
 | rlen x _=>intro n h;simp[X.lo]at h;simp only[X.ev,V.toI_i];omega
 | add x y hx hy =>
  intro n h;simp only[X.lo,ϗ,Ϡ,ϒ,Ϛ.injEq]at h;obtain⟨a,ha,b,hb,rfl⟩:=h;have:=hx a ha;have:=hy b hb;simp only[X.ev,V.toI_i];omega
 | min x y hx hy =>
  intro n h;simp only[X.lo,ϗ,Ϡ,ϒ,Ϛ.injEq]at h;obtain⟨a,ha,b,hb,rfl⟩:=h;have:=hx a ha;have:=hy b hb;simp only[X.ev,V.toI_i];split<;>omega
 | ite c x y _ hx hy =>
  intro n h;simp only[X.lo,ϗ,Ϡ,ϒ,Ϛ.injEq]at h;obtain⟨a,ha,b,hb,rfl⟩:=h;have:=hx a ha;have:=hy b hb;simp only[X.ev];split<;>omega
 | emod x y _ _ =>
  intro n h;cases y<;>simp[X.lo]at h;obtain⟨h1,rfl⟩:=h;simp only[X.ev,V.toI_i];exact Int.emod_nonneg _ O
 | wrap k x _ =>
  intro n h;cases k<;>simp[X.lo]at h;simp only[X.ev,V.toI_i,wrap_u8];omega
 | _=>intro n h;simp[X.lo]at h
def X.hi_ok(J:List V):∀(x:X) (n:Int),x.hi=ϐ n->(x.ev J).toI<=n:=by
 intro x;induction x with
 | I m=>intro n h;simp[X.hi]at h;simp[X.ev,h]
 | at_ x i _ _ =>
  intro n h;simp[X.hi]at h;simp only[X.ev,V.toI_i];have:=((x.ev J).toS.getD (i.ev J).toI.toNat 0).toNat_lt;omega
 | add x y hx hy =>
  intro n h;simp only[X.hi,ϗ,Ϡ,ϒ,Ϛ.injEq]at h;obtain⟨a,ha,b,hb,rfl⟩:=h;have:=hx a ha;have:=hy b hb;simp only[X.ev,V.toI_i];omega
 | ite c x y _ hx hy =>
  intro n h;simp only[X.hi,ϗ,Ϡ,ϒ,Ϛ.injEq]at h;obtain⟨a,ha,b,hb,rfl⟩:=h;have:=hx a ha;have:=hy b hb;simp only[X.ev];split<;>omega
 | emod x y _ _ =>
  intro n h;cases y<;>simp[X.hi]at h;obtain⟨h1,rfl⟩:=h;simp only[X.ev,V.toI_i];have:=Int.emod_lt_of_pos (x.ev J).toI h1;omega
 | wrap k x _ =>
  intro n h;cases k<;>simp[X.hi]at h;simp only[X.ev,V.toI_i,wrap_u8];omega
 | _=>intro n h;simp[X.hi]at h
def Z3o(l:Int)(x:X):List X:=match x.lo with|some n=>if l<=n then[]else[.le (.I l) x] | none=>[.le (.I l) x]
def Zvm(h:Int)(x:X):List X:=match x.hi with|some n=>if n<=h then[]else[.le x (.I h)] | none=>[.le x (.I h)]
def Zaf(J:List V)(l:List X):Prop:=∀x∈l,(x.ev J).toB=ϖ
variable{x:X}
def Z1i{J:List V}{l:Int}(h:Zaf J (Z3o l x)):l<=(x.ev J).toI:=by
 unfold Z3o at h;split at h
 ·rename_i n hn;have:=X.lo_ok J x n hn;split at h
  ·omega
  exact of_decide_eq_true (h _ (qy12.2 rfl))
 exact of_decide_eq_true (h _ (qy12.2 rfl))
def Zqg{J:List V}{l:Int}(h:Zaf J (Zvm l x)):(x.ev J).toI<=l:=by
 unfold Zvm at h;split at h
 ·rename_i n hn;have:=X.hi_ok J x n hn;split at h
  ·omega
  exact of_decide_eq_true (h _ (qy12.2 rfl))
 exact of_decide_eq_true (h _ (qy12.2 rfl))
def Zaf.app{J:List V}{a b:List X}(h:Zaf J (a++b)):Zaf J a/\Zaf J b:=⟨λx hx=>h x (by simp[hx]),λx hx=>h x (by simp[hx])⟩
def kmin:IntKind->Int | .i8=>-128 | .i16=>-32768 | .i32=>-2147483648 | .i64=>-9223372036854775808|_=>0
def kmax:IntKind->Int | .i8=>127 | .i16=>32767 | .i32=>2147483647 | .i64=>9223372036854775807 | .u8=>255 | .u16=>65535 | .u32=>4294967295 | .u64=>18446744073709551615
def Ztg(k:IntKind)(n:Int)(h1:kmin k<=n)(h2:n<=kmax k):k.wrap n=n:=by cases k<;>simp only[kmin,kmax]at h1 h2<;>simp[IntKind.wrap,IntKind.signed,IntKind.bits]<;>omega
def Zda(k:IntKind)(x:X):List X×X :=
 match k with
 | .i64=>(Z3o (kmin k) x++Zvm (kmax k) x,x)
 | k=>match x.lo,x.hi with
  | some l,ϐ h=>if kmin k<=l/\h<=kmax k then([],x)else([],.wrap k x)
  | _,_=>([],.wrap k x)
variable{k:IntKind}
def Zav{J:List V}(h:Zaf J (Zda k x).1):(((Zda k x).2).ev J).toI=k.wrap (x.ev J).toI:=by
 cases k
 case i64=>obtain⟨h1,h2⟩:=h.app;exact(Ztg .i64 _ (Z1i h1) (Zqg h2)).symm
 all_goals
  simp only[Zda]at h⊢;split
  ·rename_i l hh hl hhi;have:=X.lo_ok J x l hl;have:=X.hi_ok J x hh hhi;split
   ·show(x.ev J).toI=_
    exact(Ztg _ _ O O).symm
   simp[X.ev]
  simp[X.ev]
variable(a:By)
def Z1cw(b:By):(⟨a.toArray⟩++⟨b.toArray⟩:ByteArray)=⟨(a++b).toArray⟩:=by apply ByteArray.ext;simp
def Z10x(l h:Nat):(⟨a.toArray⟩:ByteArray).extract l h=⟨((a.take h).drop l).toArray⟩:=by apply ByteArray.ext;simp[List.drop_take]
def Znt:(⟨a.toArray⟩:ByteArray).size=a.length:=by simp[ByteArray.size]
def Z1gt(b:By):((⟨a.toArray⟩:ByteArray) == ⟨b.toArray⟩)=decide (a=b):=by
 rw[Ϧ];constructor
 ·intro h;have:(a.toArray == b.toArray)=ϖ:=h;simpa using this
 intro h;simp at h;subst h
 show(a.toArray == a.toArray)=ϖ
 simp
def Zh6:X->X | .not x=>x | .B b=>.B (!b)|x=>.not x
def Z91(J:List V)(x:X):((Zh6 x).ev J).toB=!(x.ev J).toB:=by cases x<;>simp[Zh6,X.ev]
def Zik:X->X->X | .B ϖ,y=>y|x,.B ϖ=>x | .B ϑ,_=>.B ϑ|_,.B ϑ=>.B ϑ|x,y=>.and x y
def Zdb(J:List V)(x y:X):((Zik x y).ev J).toB=((x.ev J).toB && (y.ev J).toB):=by unfold Zik;split<;>simp[X.ev]
def Z10y(c x y:X):X:=match x,y with
 | .B ϖ,y=>.or c y
 | x,.B ϑ=>.and c x
 | x,y=>.ite c x y
def Z10z(J:List V)(c x y:X):((Z10y c x y).ev J).toB=if(c.ev J).toB then(x.ev J).toB else(y.ev J).toB:=by unfold Z10y;split<;>simp[X.ev]<;>cases(c.ev J).toB<;>simp
def mkOr:X->X->X | .B ϑ,y=>y|x,.B ϑ=>x | .B ϖ,_=>.B ϖ|_,.B ϖ=>.B ϖ|x,y=>.or x y
def Z1cx(J:List V)(x y:X):((mkOr x y).ev J).toB=((x.ev J).toB || (y.ev J).toB):=by unfold mkOr;split<;>simp[X.ev]
def X.asm(x:X)(b:Bool):X->X
 | .not z=>if X.not z=x then .B b else Zh6 (X.asm x b z)
 | .and u v=>if X.and u v=x then .B b else Zik (X.asm x b u) (X.asm x b v)
 | .or u v=>if X.or u v=x then .B b else mkOr (X.asm x b u) (X.asm x b v)
 | y=>if y=x then .B b else y
def X.asm_ok{J:List V}{b:Bool}(h:(x.ev J).toB=b):∀y:X,((X.asm x b y).ev J).toB=(y.ev J).toB:=by
 intro y;induction y with
 | not z ih=>simp only[X.asm];split;(rename_i e;rw[e,h];rfl);(rw[Z91,ih];simp[X.ev])
 | and u v ih1 ih2=>simp only[X.asm];split;(rename_i e;rw[e,h];rfl);(rw[Zdb,ih1,ih2];simp[X.ev])
 | or u v ih1 ih2=>simp only[X.asm];split;(rename_i e;rw[e,h];rfl);(rw[Z1cx,ih1,ih2];simp[X.ev])
 | _=>simp only[X.asm];split<;>first|(rename_i e;rw[e,h];rfl)|rfl
def X.bears:X->X->Bool
 | g,.and a b=>X.bears g a && X.bears g b
 | g,h=>g == h || go g h
where go:X->X->Bool
 | .and a b,h=>a == h || b == h || go a h || go b h
 | g,h=>g == h
def X.bears_go_ok(J:List V):∀(g h:X),X.bears.go g h=ϖ->(g.ev J).toB=ϖ->(h.ev J).toB=ϖ:=by
 intro g;induction g with
 | and a b ha hb =>
  intro h hh hg;simp only[X.ev,V.toB_b,ϕ]at hg;simp only[X.bears.go,ϩ,beq_iff_eq]at hh;rcases hh with((h1|h1)|h1)|h1
  ·subst h1;exact hg.1
  ·subst h1;exact hg.2
  ·exact ha h h1 hg.1
  exact hb h h1 hg.2
 | _=>intro h hh hg;simp only[X.bears.go,beq_iff_eq]at hh;subst hh;exact hg
def X.bears_ok(J:List V)(g:X):∀(h:X),X.bears g h=ϖ->(g.ev J).toB=ϖ->(h.ev J).toB=ϖ:=by
 intro h;induction h with
 | and a b ha hb =>
  intro hh hg;simp only[X.bears,ϕ]at hh;simp[X.ev,ha hh.1 hg,hb hh.2 hg]
 | _ =>
  intro hh hg;simp only[X.bears,ϩ,beq_iff_eq]at hh;rcases hh with h1|h1
  ·subst h1;exact hg
  exact X.bears_go_ok J _ _ h1 hg
def Tab.tag(T:Tab)(t:Nat):Option Tg:=match T.get t with|some i=>ϐ i.tag|none=>ϔ
def Z19(hp:List Ent)(v:Nat):Option (List Kd×X) :=
 match hp with
 | []=>ϔ
 | .row u _ ks r::l=>if u=v then ϐ (ks,r)else Z19 l v
 | .rd u ks r::l=>if u=v then ϐ (ks,r)else Z19 l v
 | _::l=>Z19 l v
def Zz(hp:List Ent)(v:Nat):Option (Nat×List Sc) :=
 match hp with
 | []=>ϔ
 | .cells u ty cs::l=>if u=v then ϐ (ty,cs)else Zz l v
 | _::l=>Zz l v
def Hold(J:List V)(hp:List Ent)(w:ϙ):Prop:=∀e∈hp,e.holds J w
def Z4o{J:List V}{w:ϙ}:∀{hp:List Ent} {v:Nat} {ks:List Kd} {r:X},Hold J hp w->Z19 hp v=ϐ (ks,r)->reads w (J.getD v (.i 0)).toV ks (r.ev J).toR:=by
 intro hp;induction hp with
 | nil=>intro v ks r h hf;simp[Z19]at hf
 | cons e l ih =>
  intro v ks r h hf;have ih':=λhf'=>@ih v ks r (λe he=>h e (qy10 _ he)) hf';cases e with
  | row u ty ks' r' =>
   simp only[Z19]at hf;split at hf
   ·rename_i hu;subst hu;simp at hf;obtain⟨rfl,rfl⟩:=hf;exact owns.reads (h _ (qy8 ..))
   exact ih' hf
  | rd u ks' r' =>
   simp only[Z19]at hf;split at hf
   ·rename_i hu;subst hu;simp at hf;obtain⟨rfl,rfl⟩:=hf;exact h _ (qy8 ..)
   exact ih' hf
  | cells u ty cs=>exact ih' hf
  | st u=>exact ih' hf
def Z5e:∀{hp:List Ent} {v ty:Nat} {cs:List Sc},Zz hp v=ϐ (ty,cs)->Ent.cells v ty cs∈hp:=by
 intro hp;induction hp with
 | nil=>intro v ty cs hf;simp[Zz]at hf
 | cons e l ih =>
  intro v ty cs hf;cases e with
  | cells u ty' cs' =>
   simp only[Zz]at hf;split at hf
   ·rename_i hu;subst hu;simp at hf;obtain⟨rfl,rfl⟩:=hf;exact qy8 ..
   exact qy10 _ (ih hf)
  | _=>exact qy10 _ (ih hf)
def lenK:X->Option Nat
 | .nilR=>ϐ 0
 | .snocR r _=>(lenK r).map (·+1)
 | _=>ϔ
def clI:X->Option Int
 | .I n=>ϐ n
 | .add x y=>match clI x,clI y with|some a,ϐ b=>ϐ (a+b)|_,_=>ϔ
 | .rlen r=>(lenK r).map Int.ofNat
 | _=>ϔ
def clB:X->Option Bool
 | .lt x y=>match clI x,clI y with|some a,ϐ b=>ϐ (decide (a<b))|_,_=>ϔ
 | _=>ϔ
def Z110{J:List V}:∀{r:X} {n:Nat},lenK r=ϐ n->(r.ev J).toR.length=n
 | .nilR,n,h=>by simp[lenK]at h;subst h;rfl
 | .snocR r y,n,h=>by simp only[lenK,Ϙ]at h;obtain⟨m,hm,rfl⟩:=h;simp[X.ev,Z110 hm]
def Zqh{J:List V}:∀{x:X} {n:Int},clI x=ϐ n->(x.ev J).toI=n
 | .I m,n,h=>by simp[clI]at h;subst h;rfl
 | .rlen r,n,h=>by simp only[clI,Ϙ]at h;obtain⟨m,hm,rfl⟩:=h;simp[X.ev,Z110 hm]
 | .add x y,n,h=>by
  simp only[clI]at h;split at h
  ·rename_i a b ha hb;have e1:=Zqh (J:=J) ha;have e2:=Zqh (J:=J) hb;simp only[Ϛ.injEq]at h;simp[X.ev,e1,e2,h]
  cases h
def Z1gu{J:List V}:∀{x:X} {b:Bool},clB x=ϐ b->(x.ev J).toB=b
 | .lt x y,b,h=>by
  simp only[clB]at h;split at h
  ·rename_i a c ha hc;have e1:=Zqh (J:=J) ha;have e2:=Zqh (J:=J) hc;simp only[Ϛ.injEq]at h;simp[X.ev,e1,e2,h]
  cases h
def rowK:X->Option (List X)
 | .nilR=>ϐ []
 | .snocR r y=>(rowK r).map (·++[y])
 | _=>ϔ
def Zil:X->Nat->Option X
 | .consV x _,0=>ϐ x
 | .consV _ y,c+1=>Zil y c
 | .consI _ _ y,c+1=>Zil y c
 | .consB _ y,c+1=>Zil y c
 | .consS _ y,c+1=>Zil y c
 | _,_=>ϔ
def Z176(r i:X)(c:Nat):Option X:=match clI i,rowK r with
 | some n,ϐ l=>match l[n.toNat]? with|some y=>Zil y c|none=>ϔ
 | _,_=>ϔ
def Z111{J:List V}:∀{r:X} {l:List X},rowK r=ϐ l->(r.ev J).toR=l.map λy=>(y.ev J).toL
 | .nilR,l,h=>by simp[rowK]at h;subst h;rfl
 | .snocR r y,l,h=>by simp only[rowK,Ϙ]at h;obtain⟨m,hm,rfl⟩:=h;simp[X.ev,Z111 hm]
def Zdc{J:List V}:∀{y:X} {c:Nat} {x:X},Zil y c=ϐ x->(y.ev J).toL.getD c undef=sc1 (x.ev J).toV
 | .consV a y,0,x,h=>by simp[Zil]at h;subst h;simp[X.ev]
 | .consV a y,c+1,x,h=>by simp only[X.ev];exact Zdc (by simpa[Zil]using h)
 | .consI k a y,c+1,x,h=>by simp only[X.ev,V.toL_l,Ϥ];exact Zdc (by simpa[Zil]using h)
 | .consB a y,c+1,x,h=>by simp only[X.ev,V.toL_l,Ϥ];exact Zdc (by simpa[Zil]using h)
 | .consS a y,c+1,x,h=>by simp only[X.ev,V.toL_l,Ϥ];exact Zdc (by simpa[Zil]using h)
def Zvn{J:List V}{r i:X}{c:Nat}(h:Z176 r i c=ϐ x):((r.ev J).toR.getD (i.ev J).toI.toNat []).getD c undef=sc1 (x.ev J).toV:=by
 unfold Z176 at h;split at h
 ·rename_i n l hn hl;split at h
  ·rename_i y hy;have e:(l.map λy=>(y.ev J).toL).getD n.toNat []=(y.ev J).toL:=by rw[qy1,Ϣ,hy];rfl
   rw[Z111 hl,Zqh hn,e];exact Zdc h
  cases h
 cases h
def Z25(r i:X):Nat->List Kd->List Sc
 | _,[]=>[]
 | c,k::ks=>(match k with
  | .int k=>.int k (.rI r i c) | .bool=>.bool (.rB r i c) | .str=>.str (.rS r i c)|_=>match Z176 r i c with|some .nilS=>.nils|some x=>.val x|none=>.val (.rV r i c))::Z25 r i (c+1) ks
def loadAt(T:Tab)(hp:List Ent)(t:Nat)(a:Sc):Option (List X×CV):=do
 let i <- T.get t
 match a with
 | .ptr v off =>
  let (_,cs) <- Zz hp v
  if off+i.ks.length<=cs.length then ϐ ([],(i.agg,(cs.drop off).take i.ks.length))else ϔ
 | .eptr v esz ix c =>
  let (ks,r) <- Z19 hp v
  if ks.length=esz/\c+i.ks.length<=ks.length/\0<i.ks.length then
   ϐ (Z3o 0 ix++[.lt ix (.rlen r)],(i.agg,Z25 r ix c ((ks.drop c).take i.ks.length)))else ϔ
 | _=>ϔ
def Z112(op:BinOp)(k:IntKind)(x y:X):Option (List X×CV) :=
 match op with
 | .add=>let r:=Zda k (.add x y);ϐ (r.1,(ϑ,[.int k r.2]))
 | .sub=>let r:=Zda k (.sub x y);ϐ (r.1,(ϑ,[.int k r.2]))
 | .mul=>let r:=Zda k (.mul x y);ϐ (r.1,(ϑ,[.int k r.2]))
 | .quo=>ϐ (Z3o 0 x++Zvm (kmax k) x++Z3o 1 y,(ϑ,[.int k (.ediv x y)]))
 | .rem=>ϐ (Z3o 0 x++Z3o 1 y,(ϑ,[.int k (.emod x y)]))
 | .shl=>ϐ (Z3o 0 y,(ϑ,[.int k (.shl k x y)]))
 | .shr=>ϐ (Z3o 0 y,(ϑ,[.int k (.shr k x y)]))
 | .and | .or | .xor | .andNot=>ϐ ([],(ϑ,[.int k (.bits op k x y)]))
 | .eql=>ϐ ([],(ϑ,[.bool (.eqI x y)]))
 | .neq=>ϐ ([],(ϑ,[.bool (.not (.eqI x y))]))
 | .lss=>ϐ ([],(ϑ,[.bool (.lt x y)]))
 | .leq=>ϐ ([],(ϑ,[.bool (.le x y)]))
 | .gtr=>ϐ ([],(ϑ,[.bool (.lt y x)]))
 | .geq=>ϐ ([],(ϑ,[.bool (.le y x)]))
def Z1cy(op:BinOp)(k:IntKind)(x y:X):Option (List X×CV) :=
 match op with
 | .shl=>ϐ (Z3o 0 y,(ϑ,[.int k (.shl k x y)]))
 | .shr=>ϐ (Z3o 0 y,(ϑ,[.int k (.shr k x y)]))
 | _=>ϔ
def Z113(op:BinOp)(x y:X):Option (List X×CV) :=
 match op with
 | .add=>ϐ ([.le (.add (.len x) (.len y)) (.I 9223372036854775807)],(ϑ,[.str (.cat x y)]))
 | .eql=>ϐ ([],(ϑ,[.bool (.eqS x y)]))
 | .neq=>ϐ ([],(ϑ,[.bool (.not (.eqS x y))]))
 | .lss=>ϐ ([],(ϑ,[.bool (.less x y)]))
 | .leq=>ϐ ([],(ϑ,[.bool (.or (.less x y) (.eqS x y))]))
 | .gtr=>ϐ ([],(ϑ,[.bool (.not (.or (.less x y) (.eqS x y)))]))
 | .geq=>ϐ ([],(ϑ,[.bool (.not (.less x y))]))
 | _=>ϔ
def Z1cz(op:BinOp)(a b:Sc):Option (List X×CV) :=
 match a,b with
 | .int k x,.int k' y=>if k=k' then Z112 op k x y else Z1cy op k x y
 | .str x,.str y=>Z113 op x y
 | _,_=>ϔ
def Zth(T:Tab)(ty:Nat)(a b:Sc):Option X :=
 match T.tag ty,a,b with
 | some (.int _),.int k x,.int k' y=>if k=k' then ϐ (.eqI x y)else ϔ
 | some .bool,.bool x,.bool y=>ϐ (.eqB x y)
 | some .str,.str x,.str y=>ϐ (.eqS x y)
 | _,_,_=>ϔ
def Zqi(T:Tab)(cs ds:List Sc):List (Nat×Nat×Nat×Bool)->Option X
 | []=>ϐ (.B ϖ)
 | (off,ty,_,_)::l=>do
  let a <- cs[off]?
  let b <- ds[off]?
  let e <- Zth T ty a b
  let r <- Zqi T cs ds l
  ϐ (Zik e r)
def Z1d0(T:Tab)(t:Nat)(cs ds:List Sc):Option X :=
 match T.get t with
 | some i=>if i.eqs=ϖ then(match i.tag with | .strct fl=>Zqi T cs ds fl|_=>ϔ)else ϔ
 | none=>ϔ
def Z5z(fl:List (Nat×Nat×Nat×Bool))(cs:List Sc):List (Nat×CV)->Option (List Sc)
 | []=>ϐ cs
 | (i,(g,p))::rest=>do
  let (off,_,sz,_) <- fl[i]?
  if p.length=sz/\off+sz<=cs.length/\(g=ϖ\/p.length=1)then Z5z fl (cs.take off++p++cs.drop (off+sz)) rest else ϔ
def Zf7(g:Operand->Option CV):List (Nat×Operand)->Option (List (Nat×CV))
 | []=>ϐ []
 | (i,x)::l=>do let c <- g x;let r <- Zf7 g l;ϐ ((i,c)::r)
def Zdd(x y:X):List X:=if x=y then[]else match x.hi,y.lo with|some a,ϐ b=>if a<=b then[]else[.le x y] | _,_=>[.le x y]
def Znu(g:Operand->Option CV)(d:X):Option Operand->Option X
 | none=>ϐ d
 | some l=>match g l with|some (ϑ,[.int _ l])=>ϐ l|_=>ϔ
def Z114(T:Tab)(hp:List Ent)(g:Operand->Option CV)(o:Op):Option (List X×CV) :=
 match o with
 | .move x | .assign x=>(g x).map λc=>([],c)
 | .nilCheck x=>match g x with
  | some (ϑ,[.ptr v off])=>ϐ ([],(ϑ,[.ptr v off]))
  | _=>ϔ
 | .binOp op t x y _=>match g x,g y with
  | some (ϑ,[.bool a]),ϐ (ϑ,[.bool b])=>match op,T.tag t with
   | .eql,ϐ .bool=>ϐ ([],(ϑ,[.bool (.eqB a b)]))
   | .neq,ϐ .bool=>ϐ ([],(ϑ,[.bool (.not (.eqB a b))]))
   | _,_=>ϔ
  | some (ϑ,[.val a]),ϐ (ϑ,[.nils])=>match op,T.tag t,a with
   | .eql,ϐ (.slice _),.var v=>(Z19 hp v).map λ_=>([],(ϑ,[.bool (.isnil (.var v))]))
   | .neq,ϐ (.slice _),.var v=>(Z19 hp v).map λ_=>([],(ϑ,[.bool (.not (.isnil (.var v)))]))
   | _,_,_=>ϔ
  | some (ϑ,[a]),ϐ (ϑ,[b])=>Z1cz op a b
  | some (ϖ,cs),ϐ (ϖ,ds)=>match op,Z1d0 T t cs ds with
   | .eql,ϐ e=>ϐ ([],(ϑ,[.bool e]))
   | .neq,ϐ e=>ϐ ([],(ϑ,[.bool (Zh6 e)]))
   | _,_=>ϔ
  | _,_=>ϔ
 | .unOp .not _ x=>match g x with|some (ϑ,[.bool a])=>ϐ ([],(ϑ,[.bool (Zh6 a)]))|_=>ϔ
 | .unOp .neg _ x=>match g x with|some (ϑ,[.int k a])=>let r:=Zda k (.sub (.I 0) a);ϐ (r.1,(ϑ,[.int k r.2]))|_=>ϔ
 | .convert src dst x=>match (T.get src),T.tag dst,g x with
  | some _,ϐ (.int k),ϐ (ϑ,[.int _ a])=>let r:=Zda k a;ϐ (r.1,(ϑ,[.int k r.2]))
  | some _,ϐ .str,ϐ (ϑ,[.str a])=>ϐ ([],(ϑ,[.str a]))
  | _,_,_=>ϔ
 | .slice t x lo hi ϔ=>match T.tag t,g x with
  | some .str,ϐ (ϑ,[.str a])=>match Znu g (.I 0) lo,Znu g (.len a) hi with
   | some l,ϐ h=>ϐ (Z3o 0 l++(Zdd l h++Zdd h (.len a)),(ϑ,[.str (.sl a l h)]))
   | _,_=>ϔ
  | _,_=>ϔ
 | .fieldAddr s x f=>match T.tag s,g x with
  | some (.strct fl),ϐ (ϑ,[.ptr v off])=>do
   let (fo,_,sz,_) <- fl[f]?
   if 0<sz then ϐ ([],(ϑ,[.ptr v (off+fo)]))else ϔ
  | some (.strct fl),ϐ (ϑ,[.eptr v esz i c])=>do
   let (fo,_,sz,_) <- fl[f]?
   let (_,r) <- Z19 hp v
   if 0<sz then ϐ (Z3o 0 i++[.lt i (.rlen r)],(ϑ,[.eptr v esz i (c+fo)]))else ϔ
  | _,_=>ϔ
 | .field t x f=>match T.tag t,g x with
  | some (.strct fl),ϐ (ϖ,cs)=>do
   let (fo,_,sz,ag) <- fl[f]?
   if ag then ϐ ([],(ϖ,(cs.drop fo).take sz))else do let c <- cs[fo]?;ϐ ([],(ϑ,[c]))
  | _,_=>ϔ
 | .indexAddr t x i=>match T.tag t,g x,g i with
  | some (.slice e),ϐ (ϑ,[.val (.var v)]),ϐ (ϑ,[.int _ ix])=>do
   let ei <- T.get e
   let (ks,r) <- Z19 hp v
   if ks.length=ei.ks.length then ϐ (Z3o 0 ix++[.lt ix (.rlen r)],(ϑ,[.eptr v ks.length ix 0]))else ϔ
  | _,_,_=>ϔ
 | .index t x i=>match T.tag t,g x,g i with
  | some .str,ϐ (ϑ,[.str a]),ϐ (ϑ,[.int _ ix])=>ϐ (Z3o 0 ix++[.lt ix (.len a)],(ϑ,[.int .u8 (.at_ a ix)]))
  | _,_,_=>ϔ
 | .build t parts=>match T.get t with
  | some { tag:=.strct fl,zs:=zs,.. }=>do
   let ps <- Zf7 g parts.toList
   let cs <- Z5z fl zs ps
   ϐ ([],(ϖ,cs))
  | _=>ϔ
 | .call c=>match c.callee,c.args.toList,c.argTypes.toList with
  | .builtin .len,[x],[t]=>match T.tag t,g x with
   | some .str,ϐ (ϑ,[.str a])=>ϐ ([],(ϑ,[.int .i64 (.len a)]))
   | some (.slice _),ϐ (ϑ,[.val (.var v)])=>do let (_,r) <- Z19 hp v;ϐ ([],(ϑ,[.int .i64 (.rlen r)]))
   | some (.slice _),ϐ (ϑ,[.nils])=>ϐ ([],(ϑ,[.int .i64 (.I 0)]))
   | _,_=>ϔ
  | .builtin .min,[x,y],_=>match g x,g y with
   | some (ϑ,[.int k a]),ϐ (ϑ,[.int _ b])=>ϐ ([],(ϑ,[.int k (.min a b)]))
   | _,_=>ϔ
  | _,_,_=>ϔ
 | .load t x=>match g x with
  | some (ϑ,[a])=>loadAt T hp t a
  | _=>ϔ
 | _=>ϔ
def Hold.toRow{J:List V}{hp:List Ent}{w:ϙ}(h:Hold J hp w){v:Nat}{r ix:X}(hf:Z19 hp v=ϐ (ks,r))(hn:Zaf J (Z3o 0 ix++[.lt ix (.rlen r)])):∃ad cap,(J.getD v (.i 0)).toV=.slice (ϐ ad) (r.ev J).toR.length cap/\0<=(ix.ev J).toI/\(ix.ev J).toI<(r.ev J).toR.length:=by obtain⟨h1,h2⟩:=hn.app;have h1:=Z1i h1;have h2:(ix.ev J).toI<(r.ev J).toR.length:=of_decide_eq_true (h2 _ (qy12.2 rfl));obtain⟨_,a,cap,hv,_,h3⟩:=Z4o h hf;obtain⟨ad,rfl,_⟩:=h3 (λe=>by rw[e]at h2;simp at h2;omega);exact⟨ad,cap,hv,h1,h2⟩
variable {P:Program} {T:Tab} {J:List V} {hp:List Ent} {w:ϙ}
def Z92(w:ϙ)(a:Addr):∀(n i:Nat) (vs:List ϓ) (acc:Array ϓ),vs.length=n->(∀j u,vs[j]?=ϐ u->w.cell? (a.add (i+j))=ϐ u)->(loadCellsFrom a i n acc).run P w=.ok (acc++vs.toArray) w
 | 0,i,[],acc,_,_=>by simp[go_sem]
 | n+1,i,v::vs,acc,hl,h=>by
  have h0:w.cell? (a.add i)=ϐ v:=by simpa using h 0 v rfl
  have:=Z92 w a n (i+1) vs (acc.push v) (by simpa using hl) (λj u hu=>by have:=h (j+1) u (by simpa using hu);rw[<- this];congr 2;omega);simp[go_sem,h0,this]
def add_zero'(a:Addr):a.add 0=a:=by simp[Addr.add]
def Zhr(a:Addr)(i j:Nat):(a.add i).add j=a.add (i+j):=by simp only[Addr.add];by_cases hi:i=0<;>by_cases hj:j=0<;>simp[hi,hj]<;>omega
def Zly(b o j:Nat):(⟨b,o,ϔ⟩:Addr).add j=⟨b,o+j,ϔ⟩:=by simp only[Addr.add];split<;>simp_all
def Zim(t:Nat)(d:TypeDesc)(inf:TypeInfo)(a:Addr)(vs:List ϓ)(hd:P.underlying t=ϐ d)(hi:P.info? t=ϐ inf)(hs:inf.size=vs.length)(hv:∀j u,vs[j]?=ϐ u->w.cell? (a.add j)=ϐ u)(h1:Z2m d=ϑ->vs.length=1): (Instr.loadAt t (.pointer (ϐ a))).run P w=.ok (if Z2m d then .agg vs.toArray else vs.getD 0 undef) w:=by
 have hl:=Z92 (P:=P) w a vs.length 0 vs #[] rfl (by simpa using hv);by_cases hg:Z2m d=ϖ
 ·cases d<;>simp[Z2m]at hg<;>simp[go_sem,run_underlying hd,loadVar,isAgg,loadCells,hi,hs,hl,sizeOf,typeInfo,Z2m]
 have hg:Z2m d=ϑ:=by simpa using hg
 have h1:=h1 hg
 match vs,h1 with
 | [v],_ =>
  have hv0:w.cell? a=ϐ v:=by simpa[add_zero']using hv 0 v rfl
  cases d<;>simp[Z2m]at hg<;>simp[Instr.loadAt,go_sem,run_underlying hd,loadVar,isAgg,hv0,Z2m]
def Zyt{v:Nat}{cs:List Sc}(hh:(Ent.cells v ty cs).holds J w){off j:Nat}{s:Sc}(hs:cs[off+j]?=ϐ s): w.cell? ((⟨(J.getD v (.i 0)).toN,off,ϔ⟩:Addr).add j)=ϐ (s.ev J):=by rw[Zly,cell_of_row w _ _ _ _ _ hh];simp[hs]
def Z115{g:Bool}{cs:List Sc}(h1:g=ϑ->cs.length=1):CV.ev J (g,cs)=if g then .agg (cs.map (Sc.ev J)).toArray else(cs.map (Sc.ev J)).getD 0 undef:=by
 cases g
 ·match cs,h1 rfl with
  | [s],_=>simp[CV.ev]
 simp[CV.ev]
def Z42(r i:X):∀(ks:List Kd) (c:Nat),(Z25 r i c ks).length=ks.length
 | [],_=>rfl
 | _::ks,c=>by simp[Z25,Z42 r i ks (c+1)]
def Z93(r i:X):∀(ks:List Kd) (c j:Nat) (k:Kd),ks[j]?=ϐ k->k.ok (((r.ev J).toR.getD (i.ev J).toI.toNat []).getD (c+j) undef) -> ((Z25 r i c ks)[j]?).map (Sc.ev J)=ϐ (((r.ev J).toR.getD (i.ev J).toI.toNat []).getD (c+j) undef)
 | k0::ks,c,0,k,hk,ho=>by
  simp at hk;subst hk;simp only[Z25,List.getElem?_cons_zero,Option.map_some,Nat.add_zero]at ho⊢;have hval:∀{c:Nat},((r.ev J).toR.getD (i.ev J).toI.toNat []).getD c undef |>.oneCell'->Sc.ev J (match Z176 r i c with|some .nilS=>.nils|some x=>.val x|none=>.val (.rV r i c))=((r.ev J).toR.getD (i.ev J).toI.toNat []).getD c undef:=λ{c} h1=>by
   split
   ·rename_i hx;rw[Zvn hx];rfl
   ·rename_i x _ hx;rw[Zvn hx];rfl
   simp only[Sc.ev,X.ev,V.toV_v];rw[Z1bi _ h1]
  cases k0<;>simp only[Kd.ok]at ho<;>simp only[Sc.ev,X.ev,V.toI_i,V.toB_b,V.toS_s,V.toV_v]
  ·obtain⟨n,hn⟩:=ho;rw[hn];rfl
  ·obtain⟨n,hn⟩:=ho;rw[hn];rfl
  ·obtain⟨n,hn⟩:=ho;rw[hn];simp[Value.gS]
  ·exact congrArg ϐ (hval ho)
  exact congrArg ϐ (hval ho)
 | k0::ks,c,j+1,k,hk,ho=>by have:=Z93 r i ks (c+1) j k (by simpa using hk) (by rw[show c+1+j=c+(j+1) by omega];exact ho);rw[show c+1+j=c+(j+1) by omega]at this;simpa[Z25]using this
variable{ns:List X}{c:CV}
def Zqj(hT:Zij P T)(hr:Hold J hp w){a:Sc}(h:loadAt T hp t a=ϐ (ns,c))(hn:Zaf J ns): (Instr.loadAt t (a.ev J)).run P w=.ok (CV.ev J c) w:=by
 simp only[loadAt,ϗ,ϒ]at h;obtain⟨i,hi,h⟩:=h;obtain⟨d,inf,z,hd,hinf,hsz,-,-,-,-,hzl,hag,-,h1,-⟩:=(hT.get hi).ok;cases a<;>try (simp at h;done)
 case ptr v off =>
  simp only[ϒ]at h;obtain⟨⟨ty,cs⟩,hc,h⟩:=h;simp only[Ϟ,Ϛ.injEq,Prod.mk.injEq]at h;obtain⟨hle,rfl,rfl⟩:=h;have hh:=hr _ (Z5e hc);have hlen:(((cs.drop off).take i.ks.length).map (Sc.ev J)).length=i.ks.length:=O3;have:=Zim t d inf ⟨(J.getD v (.i 0)).toN,off,ϔ⟩ (((cs.drop off).take i.ks.length).map (Sc.ev J)) hd hinf (by rw[hsz,hlen]) (λj u hu=>by simp only[Ϣ,Ϙ]at hu;obtain⟨s,hs,rfl⟩:=hu;exact Zyt hh (by simp only[List.getElem?_take]at hs;split at hs<;>simp_all)) (λhg=>by rw[hlen];rw[<- hzl];exact h1 (by rw[<- hag];exact hg));simp only[Sc.ev];rw[this,Z115 (λhg=>by have:=h1 hg;simp;omega),hag]
 case eptr v esz ix c0 =>
  simp only[ϒ]at h;obtain⟨⟨ks,r⟩,hf,h⟩:=h;simp only[Ϟ,Ϛ.injEq,Prod.mk.injEq]at h;obtain⟨⟨rfl,hle,hpos⟩,rfl,rfl⟩:=h;obtain⟨ad,cap,hv,h0,hlt⟩:=hr.toRow hf hn;have hrd:=Z4o hr hf;have hlen:((Z25 r ix c0 ((ks.drop c0).take i.ks.length)).map (Sc.ev J)).length=i.ks.length:=by simp[Z42];omega
  have:=Zim t d inf (ad.add ((ix.ev J).toI.toNat*ks.length+c0)) ((Z25 r ix c0 ((ks.drop c0).take i.ks.length)).map (Sc.ev J)) hd hinf (by rw[hsz,hlen]) (λj u hu=>by
   have hj:j<i.ks.length:=by rw[<- hlen];exact(List.getElem?_eq_some_iff.1 hu).1
   have hcj:c0+j<ks.length:=O;obtain⟨ad',cap',hv',hcell,hok⟩:=hrd.get (i:=(ix.ev J).toI.toNat) O hcj;rw[hv]at hv';simp only[Value.slice.injEq,Ϛ.injEq]at hv';obtain⟨rfl,-,-⟩:=hv';have hget:=Z93 r ix ((ks.drop c0).take i.ks.length) c0 j ks[c0+j] (by simp[hj,qy7 hcj]) hok;rw[Ϣ,hget]at hu;rw[Zhr,Nat.add_assoc,hcell];exact hu) (λhg=>by rw[hlen];rw[<- hzl];exact h1 (by rw[<- hag];exact hg))
  simp only[Sc.ev,hv];rw[this,Z115 (λhg=>by have:=h1 hg;simp[Z42];omega),hag]
variable{y:X}
def Z116{op:BinOp}(h:Z112 op k x y=ϐ (ns,c))(hn:Zaf J ns)(t:Nat)(ox oy:Operand): (do Go.eqGuard op t ox oy (.int k (x.ev J).toI) (.int k (y.ev J).toI);Go.binOp op t (.int k (x.ev J).toI) (.int k (y.ev J).toI):Sem ϓ).run P w=.ok (CV.ev J c) w:=by
 cases op<;>simp only[Z112,Prod.mk.injEq]at h<;>obtain⟨rfl,rfl⟩:=h<;>simp only[CV.ev,Sc.ev]
 case add=>rw[Zav hn];simp[Go.eqGuard,Go.binOp,Op.intArith,go_sem,X.ev]
 case sub=>rw[Zav hn];simp[Go.eqGuard,Go.binOp,Op.intArith,go_sem,X.ev]
 case mul=>rw[Zav hn];simp[Go.eqGuard,Go.binOp,Op.intArith,go_sem,X.ev]
 case quo =>
  obtain⟨h12,h3⟩:=hn.app;obtain⟨h1,h2⟩:=h12.app;have h1:=Z1i h1;have h2:=Zqg h2;have h3:=Z1i h3;have hy:(y.ev J).toI≠0:=O;have e:((x.ev J).toI.tdiv (y.ev J).toI)=(x.ev J).toI / (y.ev J).toI:=Int.tdiv_eq_ediv_of_nonneg h1;have b1:=Int.ediv_nonneg h1 (show 0<=(y.ev J).toI by omega);have b2:=Int.ediv_le_self (y.ev J).toI h1;have hw:=Ztg k ((x.ev J).toI / (y.ev J).toI) (by cases k<;>simp only[kmin]<;>omega) O;simp[Go.eqGuard,Go.binOp,Op.intDiv,go_sem,X.ev,hy,e,hw]
 case rem =>
  obtain⟨h1,h3⟩:=hn.app;have h1:=Z1i h1;have h3:=Z1i h3;have hy:(y.ev J).toI≠0:=O;have e:((x.ev J).toI.tmod (y.ev J).toI)=(x.ev J).toI % (y.ev J).toI:=Int.tmod_eq_emod_of_nonneg h1;simp[Go.eqGuard,Go.binOp,Op.intDiv,go_sem,X.ev,hy,e]
 case shl =>
  have h1:=Z1i hn;have:¬(y.ev J).toI<0:=O;simp[Go.eqGuard,Go.binOp,Op.shift,go_sem,X.ev,this]
 case shr =>
  have h1:=Z1i hn;have:¬(y.ev J).toI<0:=O;simp[Go.eqGuard,Go.binOp,Op.shift,go_sem,X.ev,this]
 all_goals first
  | (simp[Go.eqGuard,Go.binOp,Op.intCmp,Op.intBits,go_sem,X.ev,Z2l];done)
  | (simp[Go.eqGuard,Go.binOp,Op.intCmp,go_sem,X.ev];rw[Ϧ];simp)
def Z177{op:BinOp}{k':IntKind}(h:Z1cy op k x y=ϐ (ns,c))(hn:Zaf J ns)(t:Nat)(ox oy:Operand): (do Go.eqGuard op t ox oy (.int k (x.ev J).toI) (.int k' (y.ev J).toI);Go.binOp op t (.int k (x.ev J).toI) (.int k' (y.ev J).toI):Sem ϓ).run P w=.ok (CV.ev J c) w:=by
 cases op<;>simp only[Z1cy]at h<;>obtain⟨rfl,rfl⟩:=h<;>simp only[CV.ev,Sc.ev];all_goals
  have h1:=Z1i hn;have:¬(y.ev J).toI<0:=O;simp[Go.eqGuard,Go.binOp,Op.shift,go_sem,X.ev,this]
def Z117{op:BinOp}(h:Z113 op x y=ϐ (ns,c))(hn:Zaf J ns)(t:Nat)(ox oy:Operand): (do Go.eqGuard op t ox oy (.string ⟨(x.ev J).toS.toArray⟩) (.string ⟨(y.ev J).toS.toArray⟩);Go.binOp op t (.string ⟨(x.ev J).toS.toArray⟩) (.string ⟨(y.ev J).toS.toArray⟩):Sem ϓ).run P w=.ok (CV.ev J c) w:=by
 cases op<;>simp only[Z113]at h<;>obtain⟨rfl,rfl⟩:=h<;>simp only[CV.ev,Sc.ev]
 case add =>
  have h1:(((x.ev J).toS.length:Int)+(y.ev J).toS.length)<=9223372036854775807:=of_decide_eq_true (hn _ (qy12.2 rfl));have h2:¬9223372036854775807<(((x.ev J).toS.length:Int)+(y.ev J).toS.length):=O;simp[Go.eqGuard,Go.binOp,Op.stringOp,go_sem,X.ev,h2,Z1cw]
 all_goals
  simp[Go.eqGuard,Go.binOp,Op.stringOp,go_sem,X.ev];try (rw[Ϧ];simp)
def Z178{op:BinOp}{a b:Sc}(h:Z1cz op a b=ϐ (ns,c))(hn:Zaf J ns)(t:Nat)(x y:Operand): (do Go.eqGuard op t x y (a.ev J) (b.ev J);Go.binOp op t (a.ev J) (b.ev J):Sem ϓ).run P w=.ok (CV.ev J c) w:=by
 unfold Z1cz at h;split at h
 ·split at h
  ·rename_i hk;subst hk;exact Z116 h hn t x y
  exact Z177 h hn t x y
 ·exact Z117 h hn t x y
 cases h
variable {P:Program} {T:Tab} {J:List V} {hp:List Ent} {w:ϙ}
def Zij.tag{T:Tab}(h:Zij P T){g:Tg}(hg:T.tag t=ϐ g):∃d,P.underlying t=ϐ d/\Zbz P g d:=by
 unfold Tab.tag at hg;split at hg
 ·rename_i i hi;simp at hg;subst hg;obtain⟨d,inf,z,hd,hinf,-,-,-,-,-,-,-,ht,-⟩:=(h.get hi).ok;exact⟨d,hd,ht⟩
 cases hg
def Zde{fl:List (Nat×Nat×Nat×Bool)}{d:TypeDesc}(h:Zbz P (.strct fl) d):∃fs,d=.struct fs/\fl.length=fs.size/\∀(n:Nat) p,fl[n]?=ϐ p->∃f d i,fs[n]?=ϐ f/\f.offset=p.1/\f.type=p.2.1/\(f.name ≠ "_")/\P.underlying f.type=ϐ d/\P.info? f.type=ϐ i/\i.size=p.2.2.1/\Z2m d=p.2.2.2:=by cases d<;>simp only[Zbz]at h;exact⟨_,rfl,h.1,h.2⟩
def Z2w{e:Nat}{d:TypeDesc}(h:Zbz P (.slice e) d):d=.slice e:=by cases d<;>simp only[Zbz]at h;rw[h]
def Zcg{d:TypeDesc}(h:Zbz P .str d):d=.string:=by cases d<;>simp only[Zbz]at h;rfl
def Znv{d:TypeDesc}(h:Zbz P .bool d):d=.bool:=by cases d<;>simp only[Zbz]at h;rfl
def Znw{d:TypeDesc}(h:Zbz P (.int k) d):d=.int k:=by cases d<;>simp only[Zbz]at h;rw[h]
def runv{s:Sem ϓ}(h:s.run P w=.ok v w):(do pure (Next.value (<- s)):Sem Next).run P w=.ok (.value v) w:=by simp[h]
def Zqk(off:Nat):∀(vs:List ϓ) (k:Nat) (l:List ϓ),off+k+vs.length<=l.length -> (vs.zipIdx k).foldl (λ(cs:Array ϓ) (p:ϓ×Nat)=>cs.setIfInBounds (off+p.2) p.1) l.toArray=(l.take (off+k)++vs++l.drop (off+k+vs.length)).toArray:=by
 intro vs;induction vs with
 | nil=>intro k l h;simp
 | cons v vs ih =>
  intro k l h;simp only[List.length_cons]at h;simp only[List.zipIdx_cons,List.foldl_cons,List.setIfInBounds_toArray];rw[ih (k+1) _ O3];congr 1;have e1:(l.set (off+k) v).take (off+(k+1))=l.take (off+k)++[v]:=by rw[show off+(k+1)=off+k+1 by omega,List.take_add_one,List.take_set_of_le O];simp[show off+k<l.length by omega]
  have e2:(l.set (off+k) v).drop (off+(k+1)+vs.length)=l.drop (off+k+(vs.length+1)):=by rw[List.drop_set_of_lt O];congr 1;omega
  rw[e1,e2];simp
def Zhs{g:Bool}{p:List Sc}(h:g=ϖ\/p.length=1):(CV.ev J (g,p)).cells.toList=p.map (Sc.ev J):=by
 cases g
 ·match p,h with
  | [s],_ =>
   have h1:=Sc.ev_one J s;simp only[CV.ev,Ϫ];generalize s.ev J=v at *;cases v<;>first|rfl|(simp[Value.oneCell']at h1)
  | [],h=>simp at h
  | _::_::_,h=>simp at h
 simp[CV.ev,Value.cells]
def Z118{fl:List (Nat×Nat×Nat×Bool)}{place:Nat->Option (Nat×Nat)}(hpl:∀n p,fl[n]?=ϐ p->place n=ϐ (p.1,p.2.2.1)): ∀(ps:List (Nat×CV)) (cs cs':List Sc),Z5z fl cs ps=ϐ cs'  -> Instr.fill place (cs.map (Sc.ev J)).toArray (ps.map λp=>(p.1,CV.ev J p.2))=ϐ (cs'.map (Sc.ev J)).toArray:=by
 intro ps;induction ps with
 | nil=>intro cs cs' h;simp[Z5z]at h;subst h;simp[Instr.fill]
 | cons p ps ih =>
  intro cs cs' h;obtain⟨i,g,p⟩:=p;simp only[Z5z,ϗ,ϒ]at h;obtain⟨⟨off,ty,sz,ag⟩,hfl,h⟩:=h;simp only[Ϟ]at h;obtain⟨⟨hs,hle,hg1⟩,h⟩:=h;have hcell:=Zhs (J:=J) hg1;have ih':=ih _ _ h;have hsz:(CV.ev J (g,p)).cells.size=sz:=by rw[<- Array.length_toList,hcell];simpa using hs
  simp only[Ϫ,Instr.fill,hpl _ _ hfl,hsz,ne_eq,not_true_eq_false,decide_false,Bool.false_or,List.size_toArray,qy3];rw[ϛ O3];rw[<- ih'];congr 1;rw[<- Array.foldl_toList,Array.toList_zipIdx,hcell];have:=Zqk off (p.map (Sc.ev J)) 0 (cs.map (Sc.ev J)) O3;simp only[qy3,Nat.add_zero,hs]at this;refine this.trans ?_;simp[List.map_take,List.map_drop]
def Zlz{g:Operand->Option CV}{e:Operand->ϓ}(hg:∀x c,g x=ϐ c->e x=CV.ev J c):∀(l:List (Nat×Operand)) (ps:List (Nat×CV)), Zf7 g l=ϐ ps->l.map (λp=>(p.1,e p.2))=ps.map λp=>(p.1,CV.ev J p.2):=by
 intro l;induction l with
 | nil=>intro ps h;simp[Zf7]at h;subst h;rfl
 | cons p l ih =>
  intro ps h;obtain⟨i,x⟩:=p;simp only[Zf7,ϗ,ϒ,Ϛ.injEq]at h;obtain⟨c,hc,r,hr,rfl⟩:=h;simp[hg x c hc,ih r hr]
def Zvo{α β:Type}(G:α->Sem β)(w:ϙ):∀(l:List α) (ys:List β),ys.length=l.length->(∀(n:Nat) x y,l[n]?=ϐ x->ys[n]?=ϐ y->(G x).run P w=.ok y w)->(l.mapM G).run P w=.ok ys w:=by
 intro l;induction l with
 | nil=>intro ys h1 h2;have:=ϣ h1;subst this;simp
 | cons x l ih =>
  intro ys h1 h2
  match ys,h1 with
  | y::ys,h1 =>
   have e1:=h2 0 x y rfl rfl;have e2:=ih ys (by simpa using h1) (λn a b ha hb=>h2 (n+1) a b (by simpa using ha) (by simpa using hb));simp[e1,e2]
def Z119(w:ϙ){fs:Array Field}{fl:List (Nat×Nat×Nat×Bool)}(hfl:∀(n:Nat) p,fl[n]?=ϐ p->∃f d i,fs[n]?=ϐ f/\f.offset=p.1/\f.type=p.2.1/\(f.name ≠ "_")/\P.underlying f.type=ϐ d/\P.info? f.type=ϐ i/\i.size=p.2.2.1/\Z2m d=p.2.2.2)(hlen:fl.length=fs.size)(G:Field->Sem (Nat×Nat))(hG:∀f i,P.info? f.type=ϐ i->(G f).run P w=.ok (f.offset,i.size) w):(fs.mapM G).run P w=.ok (fl.map λp=>(p.1,p.2.2.1)).toArray w:=by obtain⟨l⟩:=fs;simp only[List.getElem?_toArray]at hfl hlen;rw[List.mapM_toArray];have key:=Zvo G w l (fl.map λp=>(p.1,p.2.2.1)) (by simpa using hlen) (λn x y hx hy=>by simp only[Ϣ,Ϙ]at hy;obtain⟨p,hp,rfl⟩:=hy;obtain⟨f,d,i,hf,ho,ht,hn,hu,hi,hs,ha⟩:=hfl n p hp;rw[hx]at hf;simp at hf;subst hf;rw[hG x i hi,ho,hs]);simp[key]
