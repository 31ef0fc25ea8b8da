/- By an AI agent. -/
import Derived.Test.YtldmdbipjhkaeaaGreatDoorU25
import Derived.Test.YtldmdbipjhkaeaaGreatDoorU27
import Derived.Test.YtldmdbipjhkaeaaGreatDoorU28
import Derived.Test.YtldmdbipjhkaeaaGreatDoorU01
import Derived.WalkKit
import Derived.ProofKit
import Derived.OpenShut
import Derived.JoinedCond
import Derived.ChangeStays
import Derived.Test.YtldmdbipjhkaeaaGreatDoorU05
import Derived.Test.YtldmdbipjhkaeaaGreatDoorU11
import Derived.Test.YtldmdbipjhkaeaaGreatDoorU12
import Derived.Test.YtldmdbipjhkaeaaGreatDoorU09
import Derived.Test.YtldmdbipjhkaeaaGreatDoorU10
import Derived.Test.YtldmdbipjhkaeaaGreatDoorU23
set_option linter.all false
set_option maxHeartbeats 20000000
namespace Go.Proofs.Y
open Go Go.Sx
theorem Zp9{n:Int}{m:Msg}{t:Tel}(h:msgE n m t=0):BOk t/\(0<=n/\n<=9)/\chk m=0:=by
 unfold msgE at h;split at h
 ·exact absurd h (by assumption)
 rename_i h1;split at h
 ·exact absurd h (by decide)
 rename_i h2;exact⟨Zaw.1 (qy9.1 h1),qy9.1 h2,h⟩
set_option maxRecDepth 4000 in
theorem Zcy(w:World)(x:TelX)(n:Int)(m:Msg)(mv:Value)(hx:RdX w x)(ha:Z2d w mv m.opts)(ho:x.ox=[])(hs:SmlT x.tel)(hm1:m.opts.length<1099511627776)(hm2:m.tok.length<1099511627776)(hm3:m.pay.length<1099511627776) : Calls Tryz.prog 4 #[bkV x,.int .i64 n,mV m (sc1 mv)] w λe w'=>e=.returned (.bool true)/\Mod [] w w':=by
 obtain⟨xk,xw,xs,xa,xn,xo,v1,v2,v3,v4,v5⟩:=x;simp only at ho;subst ho;have hb0:=hs.b;have hf0:=hs.f;refine Z1 (Z3 (J:=bkA ⟨xk,xw,xs,xa,xn,[],v1,v2,v3,v4,v5⟩++([.i n]++mgV m mv)) (sxE_ok.joins _) Tryz.func4 Z3a rfl rfl (Zw7 hx ha) rfl rfl ?_) rfl;simp only[Tree.goal,X.P,X.ev,SV.ev,CV.ev,Sc.ev,qz,QA,QB,QC,QD,QE,QF,QG,QH,QI,QJ,QK,QL,QM,Nat.reduceAdd,qy3,qy4];obtain⟨t,ht⟩:∃t:Tel,t=TelX.tel ⟨xk,xw,xs,xa,xn,[],v1,v2,v3,v4,v5⟩:=⟨_,rfl⟩
 have hto:t.out=[]:=by rw[ht];rfl
 have htb:TelX.tel ⟨xk,xw,xs,xa,xn,[],v1,v2,v3,v4,.slice none 0 0⟩=t:=by rw[ht];rfl
 intro b18 b19 w1 hr1;have hq:=Zh6 w1 ⟨xk,xw,xs,xa,xn,[],v1,v2,v3,v4,v5⟩ n m mv (Zw7 ⟨hr1.at_ 2 rfl,hr1.at_ 3 rfl,hr1.at_ 4 rfl,hr1.at_ 5 rfl,hr1.at_ 6 rfl⟩ (hr1.at_ 7 rfl)) rfl hb0 hf0 hm1 hm2 hm3;rw[<- ht]at hq;obtain⟨e1,he1⟩:∃e,e=msgE n m t:=⟨_,rfl⟩
 rw[<- he1]at hq;refine(Zw5 hr1 20 hq rfl).mono ?_;rintro r w2 ⟨y1,t1,-,rfl,m1,m3,m4⟩;refine⟨brV y1 e1,rfl,rfl,m1,qy5 _,m3,m4,?_⟩;clear m1 m3 m4 hr1 hq;intro b33;refine⟨[.i (chkB t)],rfl,λ_ w' hr=>by rw[ht];exact Zfy w' ⟨xk,xw,xs,xa,xn,[],v1,v2,v3,v4,v5⟩ ⟨hr.at_ 9 rfl,hr.at_ 10 rfl,hr.at_ 11 rfl,hr.at_ 12 rfl,hr.at_ 13 rfl⟩ rfl hb0,?_⟩;simp only[Tree.goal,X.P,X.ev,SV.ev,CV.ev,Sc.ev,qz,QA,QB,QC,QD,QE,QF,QG,QH,QI,QJ,QK,QL,QM,Nat.reduceAdd,qy3,qy4];obtain⟨e2,he2⟩:∃e:Int,e=if ¬chkB t=0 then chkB t else if ¬(0<=n/\n<=9)then 3 else 0:=⟨_,rfl⟩
 have he12:e1=if e2=0 then chk m else e2:=by
  rw[he1,he2,msgE];by_cases h1:chkB t=0
  ·by_cases h2:0<=n/\n<=9
   ·simp[h1,h2]
   ·simp[h1,h2]
  ·simp[h1]
 refine⟨λvs=>vs=[.i e2],⟨λh=>?_,λh=>?_⟩,?_⟩
 ·rw[he2,if_neg (qy9.2 h.1),if_pos (λh2=>by omega)]
 ·rw[he2];by_cases h1:chkB t=0
  ·rw[if_neg (qy9.2 h1),if_neg (λh2=>h2 (by omega)),h1]
  ·rw[if_pos h1]
 rintro _ - rfl;simp only[Tree.goal,X.P,X.ev,SV.ev,CV.ev,Sc.ev,qz,QA,QB,QC,QD,QE,QF,QG,QH,QI,QJ,QK,QL,QM,Nat.reduceAdd,qy3,qy4];refine⟨λvs=>vs=[.i 0,.i e1],⟨λh=>⟨[.i (chk m)],rfl,λ_ w' hr=>Zft w' m mv (hr.at_ 14 rfl) hm1,?_⟩,λh=>?_⟩,?_⟩
 ·rw[he12,if_pos h];rfl
 ·rw[he12,if_neg h]
 rintro _ - rfl;simp only[Tree.goal,X.P,X.ev,SV.ev,CV.ev,Sc.ev,qz,QA,QB,QC,QD,QE,QF,QG,QH,QI,QJ,QK,QL,QM,Nat.reduceAdd,qy3,qy4];intro k1;refine⟨λvs=>∃y:TelX,vs=[.i 0,.i 0,.i 0,.i 0,.i 0,.i 0,.i 0,.i 0,.i 0,.i 0,.i 0,.i 0,.v y.kv,.v y.wv,.v y.sv,.v y.av,.i y.next,.v y.ov,.r (y.kept.map encK),.r (y.wants.map Za),.r (y.sx.map Zf),.r (y.wat.map Z7),.r (y.ox.map Z12),.a (Z6 y.sx y.ox)]/\y.tel=if e1=0 then Zv n m t else t,⟨λh=>?_,λh=>?_⟩,?_⟩
 ·obtain⟨hB,hC,hP⟩:=Zp9 (he1.symm.trans h);intro w5 hr5;have hz5:=hr5.mod.size;have hc5:=Zr6 w5 k1 ⟨xk,xw,xs,xa,xn,[],v1,v2,v3,v4,.slice none 0 0⟩ n m mv ((((Z13m (hr5.pick [10,11,12,14,13,0,15] (by decide)) (by rfl) 97 kSn).pick [1,2,3,4,0,5,6,7] (by decide)).conv rfl).base.conv rfl) (by rw[htb];exact hB) (show 0<40000 by decide) hP;rw[htb]at hc5;refine(Z10p (k:=k1) (x:=⟨xk,xw,xs,xa,xn,[],v1,v2,v3,v4,.slice none 0 0⟩) (F:=λ_=>False) (pre:=[]) hr5 39 38 [] hc5
   rfl rfl (by simp) (λj hj=>by cases hj) (λj hj=>.inl ?_)).mono ?_
  ·rcases hj with(hj|hj|hj|hj|hj)|hj
   ·exact(qE 10 rfl rfl hj)
   ·exact(qE 11 rfl rfl hj)
   ·exact(qE 12 rfl rfl hj)
   ·exact(qE 14 rfl rfl hj)
   ·exact(qE 13 rfl rfl hj)
   ·exact hj.elim
  rintro e w6 ⟨y,hy,hs1,hg1,rfl,m1,m2,m3,m4⟩;refine⟨tlV y,rfl,rfl,m1,m2,m3,m4,?_⟩;exact⟨Z6 y.sx y.ox,λw hr=>hr.at_ 5 rfl,λj hj=>(qE 5 rfl rfl hj),y,rfl,by rw[hy,if_pos h]⟩
 ·exact⟨Z6 xs [],λw hr=>hr.at_ 13 rfl,λj hj=>(qE 13 rfl rfl hj),⟨xk,xw,xs,xa,xn,[],v1,v2,v3,v4,.slice none 0 0⟩,rfl,by rw[htb,if_neg h]⟩
 rintro _ - ⟨y2,rfl,t2⟩;simp only[Tree.goal,X.P,X.ev,SV.ev,CV.ev,Sc.ev,qz,QA,QB,QC,QD,QE,QF,QG,QH,QI,QJ,QK,QL,QM,Nat.reduceAdd,qy3,qy4];refine⟨[.b true],rfl,λ_ w' _=>Zj3 w',?_⟩;simp only[Tree.goal,X.P,X.ev,SV.ev,CV.ev,Sc.ev,qz,QA,QB,QC,QD,QE,QF,QG,QH,QI,QJ,QK,QL,QM,Nat.reduceAdd,qy3,qy4];have P1:e1=0->BOk (Zv n m t)/\Z32 (Zv n m t).out/\(Zv n m t).out.length<=200:=λh=>by obtain⟨hB,hC,hP⟩:=Zp9 (he1.symm.trans h);have h4:=Zmm hB hC hP;rw[hto]at h4;exact⟨h4.1,Zl9 hB hP (by rw[hto];exact .nil),by simpa using h4.2⟩
 refine⟨[.b true],rfl,λh w' hr=>?_,?_⟩
 ·obtain⟨o1,o2⟩:=Zzw t1 λh=>(P1 h).2;exact Zr4 w' y1 y2 e1 ⟨hr.at_ 8 rfl,hr.at_ 9 rfl,hr.at_ 10 rfl,hr.at_ 13 rfl,hr.at_ 11 rfl⟩ (hr.at_ 12 rfl) ⟨hr.at_ 1 rfl,hr.at_ 2 rfl,hr.at_ 3 rfl,hr.at_ 0 rfl,hr.at_ 4 rfl⟩ (hr.at_ 5 rfl).reads (Zzv t1 λh=>(P1 h).1) o1 o2 (t1.trans (Z147 λh=>by rw[t2,if_pos h]))
 simp only[Tree.goal,X.P,X.ev,SV.ev,CV.ev,Sc.ev,qz,QA,QB,QC,QD,QE,QF,QG,QH,QI,QJ,QK,QL,QM,Nat.reduceAdd,qy3,qy4];intro w' hr;exact⟨by simp,hr.mod⟩
end Go.Proofs.Y
namespace Go.Sx
open Go Go.ChangeShapes Go.WideShapes Go.ChangeAt Go.RowKit
section
variable {H:Type} {enc:TypeId×Value->H} {P:Program}
def Z16j(P:Program)(ts:List TypeId):Bool:=ts.all λt=>match P.underlying t with|some (.slice e)=>decide (0<P.cellsOf e)|_=>true
def Zwc(P:Program)(ts:List TypeId):Bool:=ts.all λt=>match P.underlying t with
 | some (.slice e)=>ts.contains e
 | some (.pointer e)=>ts.contains e
 | some (.array _ e)=>ts.contains e
 | some (.map _ e)=>ts.contains e
 | some (.struct fs)=>fs.toList.all λf=>ts.contains f.type
 | _=>true
theorem Z148(hl:laidOutB P=true)(hm:mapsRowed P=true){ts:List TypeId}(hc:Zwc P ts=true)(hs:ts.all (λt=>decide (t<P.types.size))=true):Kids P (·∈ts):=by
 have K:=kids_rows hl hm;have hs':∀t∈ts,t<P.types.size:=λt ht=>by simpa using List.all_eq_true.1 hs t ht
 have hc':=λt ht=>List.all_eq_true.1 hc t ht;refine⟨λ{t e} ht hu=>?_,λ{t e} ht hu=>?_,λ{t e n} ht hu=>⟨?_,(K.array (hs' t ht) hu).2⟩,λ{t fs} ht hu=>⟨?_,(K.struct (hs' t ht) hu).2⟩,λ{t k e} ht hu=>?_⟩
 ·have:=hc' t ht;rw[hu]at this;simpa using this
 ·have:=hc' t ht;rw[hu]at this;simpa using this
 ·have:=hc' t ht;rw[hu]at this;simpa using this
 ·have:=hc' t ht;rw[hu]at this;simp only[List.all_eq_true]at this;exact λf hf=>by simpa using this f hf
 ·have:=hc' t ht;rw[hu]at this;simpa using this
theorem Zff{w w':World}{p:MemPlace}(h:w'.heap[p.block]?=w.heap[p.block]?):w.sameAt w' p:=by
 cases p with
 | cell b off=>exact World.cell?_of_block h
 | map b=>exact h
theorem Zb0{w w':World}{sp:Nat->Bool}{T:TypeId->Prop}(K:Kids P T)(hsz:∀{t e:TypeId},T t->P.underlying t=some (.slice e)->0<P.cellsOf e) : ∀{ts:List TypeId} {vs:List Value} {ds:List (DataW H)} {ps:List MemPlace},(∀t∈ts,T t)->DataW.TrodAll enc P w 0 (λ_=>true) true ts vs ds ps -> (∀p∈ps,w.sameAt w' p)->(∀p∈ps,sp p.block=true)->DataW.TrodAll enc P w' 0 sp true ts vs ds ps
 | [],_,_,_,_,h,_,_=>by obtain⟨rfl,rfl,rfl⟩:=trodAll_nil h;exact trodAll_mk0
 | t::ts,_,_,_,ht,h,hs,hp=>by
  obtain⟨v,vs1,d,ds1,a,b,rfl,rfl,rfl,h1,h2⟩:=trodAll_cons h;obtain⟨n,h1⟩:=h1;exact⟨a,b,⟨n,DataW.trod_stays K hsz (λh=>by cases h) (ht t (qy8 ..)) h1 (λp hp'=>hs p (List.mem_append_left _ hp')) (λp hp'=>hp p (List.mem_append_left _ hp'))⟩,
   Zb0 K hsz (λu hu=>ht u (qy10 _ hu)) h2 (λp hp'=>hs p (List.mem_append_right _ hp')) (λp hp'=>hp p (List.mem_append_right _ hp')),rfl⟩
theorem Zzy{f:Func}{s:ChangeSpec}{fresh handsOn again:Bool}{W W':World}{args:Array Value}{ds gs:List (DataW H)}{before:List MemPlace}{tb:TypeId}(ts:List TypeId) (hW:DataW.Whole enc P f.params.toList s.vars false W args.toList ds gs before) (hv:s.vars=[]) (hr:f.resultTypes=#[tb]) (htb:P.underlying tb=some .bool) (hfn:gs=[]->(s.fn H ds).results=[.lit (.bool true)]/\(s.fn H ds).args=ds/\(s.fn H ds).vars=[]) (hl:laidOutB P=true) (hm:mapsRowed P=true) (hc:Zwc P ts=true) (hs:ts.all (λt=>decide (t<P.types.size))=true) (hz:Z16j P ts=true) (hp:f.params.toList.all ts.contains=true) (h:Mod [] W W'):s.post enc P f false fresh handsOn again W args (.bool true) W':=by
 have hW':=hW;have hlt:=hW.lt;obtain⟨p,q,hA,hV,rfl,hfz,hn⟩:=hW;rw[hv]at hV;obtain⟨rfl,rfl⟩:=trodVars_none hV;obtain⟨f1,f2,f3⟩:=hfn rfl;have K:=Z148 hl hm hc hs;have hsz:∀{t e:TypeId},t∈ts->P.underlying t=some (.slice e)->0<P.cellsOf e:=λ{t e} ht hu=>by have:=List.all_eq_true.1 hz t ht;rw[hu]at this;simpa using this
 have hT:∀t∈f.params.toList,t∈ts:=λt ht=>by simpa using List.all_eq_true.1 hp t ht
 have hblk:∀k,k<W.heap.size->W'.heap[k]?=W.heap[k]?:=λk hk=>h.block k hk (by simp);have hsame:∀x∈p,W.sameAt W' x:=λx hx=>Zff (hblk _ (hlt x (by simpa using hx)));have hargs:∀sp:Nat->Bool,(∀x∈p,sp x.block=true)->DataW.TrodAll enc P W' 0 sp true f.params.toList args.toList (s.fn H (ds++[])).args p:=λsp hsp=>by rw[List.append_nil,f2];exact Zb0 K hsz hT hA hsame hsp
 have hres:∀(b:Nat) (sp:Nat->Bool) (hd:Bool),DataW.TrodAll enc P W' b sp hd f.resultTypes.toList ((Value.bool true).resultList f.resultTypes.size) (s.fn H (ds++[])).results []:=λb sp hd=>by rw[List.append_nil,f1,hr];exact trodAll_cons_mk (shut_bool htb _) trodAll_mk0
 have hvars:∀sp:Nat->Bool,DataW.TrodVars enc P W' sp s.vars (s.fn H (ds++[])).vars []:=λsp=>by rw[List.append_nil,f3,hv];rfl
 have hold:∀x∈p,(λb=>decide (b<W.heap.size)) x.block=true:=λx hx=>by simpa using hlt x (by simpa using hx)
 refine⟨ds,[],p++[],[],p,[],hW',hres _ _ _,hargs _ hold,hvars _,⟨h.os,h.output,λi hi=>?_⟩,λ_=>⟨?_,[.lit (.bool true)]++ds,[],([]++p)++[],⟨[]++p,[],trodAll_append (by have:=hargs (λ_=>true) (λ_ _=>rfl);rw[List.append_nil,f2]at this;exact this) (by have:=hres 0 (λ_=>true) true;rw[List.append_nil,f1]at this;exact this),by rw[hv];rfl,rfl,?_,by simp⟩,?_⟩⟩
 ·have e:=hblk i hi;rw[e];cases W.heap[i]? with
  | none=>rfl
  | some o=>cases o<;>simp
 ·exact ok_one hr rfl (okWide_bool_mk htb _)
 ·intro b off hb;have hb:MemPlace.cell b off∈p:=by simpa using hb
  have hlt':=hlt _ (show MemPlace.cell b off∈p++[] by simpa using hb);have:=hfz b off (by simpa using hb);simp only[World.frozen?,hblk b hlt']at this⊢;exact this
 ·intro x hx _;simpa using hx
end
end Go.Sx
namespace Go.Sx
open Go Go.ChangeShapes Go.WideShapes Go.ChangeAt Go.RowKit
section
variable {H:Type} {enc:TypeId×Value->H} {P:Program} {w:World} {sp:Nat->Bool}
structure Bulk(B:DataW H->Nat):Prop where
 agg:∀l:List (DataW H),(l.map B).sum<=B (.agg l)
 slice:∀l r:List (DataW H),(l.map B).sum+1<=B (.slice l r)
 str:∀s:List UInt8,s.length+1<=B (.lit (.string s))
 one:∀d:DataW H,1<=B d
def Zfg(P:Program)(g:TypeId->Option (List (TypeId×Kd))):List Field->Nat->Option (List (TypeId×Kd))
 | [],_=>some []
 | f::fs,off=>do
  let l <- g f.type
  let r <- Zfg P g fs (off+l.length)
  if f.offset=off/\P.cellsOf f.type=l.length then some (l++r)else none
def Z4u(P:Program):Nat->TypeId->Option (List (TypeId×Kd))
 | 0,_=>none
 | f+1,t=>match P.underlying t with
  | some .bool=>some [(t,.bool)]
  | some (.int k)=>some [(t,.int k)]
  | some .string=>some [(t,.str)]
  | some (.slice _)=>some [(t,.oth)]
  | some (.struct fs)=>match Zfg P (Z4u P f) fs.toList 0 with
   | some l=>if P.cellsOf t=l.length then some l else none
   | none=>none
  | _=>none
def Z5e(enc:TypeId×Value->H)(P:Program)(w:World)(sp:Nat->Bool)(B:DataW H->Nat)(l:TypeId×Kd)(c:Value)(b:Nat):Prop :=
 l.2.ok c/\∃n d ps,DataW.trod enc P w 0 sp true n l.1 [c]=some (d,ps)/\B d<=b
inductive Lv (enc:TypeId×Value->H) (P:Program) (w:World) (sp:Nat->Bool) (B:DataW H->Nat):List (TypeId×Kd)->List Value->Nat->Prop
 | nil (b:Nat):Lv enc P w sp B [] [] b
 | cons {l:TypeId×Kd} {ls:List (TypeId×Kd)} {c:Value} {cs:List Value} {b1 b2 b:Nat}:Z5e enc P w sp B l c b1->Lv enc P w sp B ls cs b2->b1+b2<=b->Lv enc P w sp B (l::ls) (c::cs) b
variable {B:DataW H->Nat}
theorem Lv.mono{ls:List (TypeId×Kd)}{cs:List Value}{b b':Nat}(h:Lv enc P w sp B ls cs b)(hb:b<=b'):Lv enc P w sp B ls cs b':=by
 cases h with
 | nil=>exact .nil _
 | cons h1 h2 h3=>exact .cons h1 h2 (by omega)
theorem Lv.append{l2:List (TypeId×Kd)}{c2:List Value}{b2:Nat}(h':Lv enc P w sp B l2 c2 b2):∀{l1:List (TypeId×Kd)} {c1:List Value} {b1:Nat},Lv enc P w sp B l1 c1 b1->Lv enc P w sp B (l1++l2) (c1++c2) (b1+b2):=by
 intro l1 c1 b1 h;induction h with
 | nil b=>exact h'.mono (by omega)
 | cons h1 h2 h3 ih=>exact .cons h1 ih (by omega)
theorem Lv.rowOk{ls:List (TypeId×Kd)}{cs:List Value}{b:Nat}(h:Lv enc P w sp B ls cs b):rowOk (ls.map (·.2)) cs:=by
 induction h with
 | nil=>trivial
 | cons h1 h2 h3 ih=>exact⟨h1.1,ih⟩
theorem Zhc{g:TypeId->Option (List (TypeId×Kd))}{cs:List Value}{n:Nat}(hg:∀t l cs x,g t=some l->DataW.trod enc P w 0 sp true n t cs=some x->Lv enc P w sp B l cs (B x.1)) : ∀{fs:List Field} {xs:List (DataW H×List MemPlace)} {off:Nat} {l:List (TypeId×Kd)},Zfg P g fs off=some l->xs.length=fs.length -> (∀(i:Nat) (f:Field),fs[i]?=some f->DataW.trod enc P w 0 sp true n f.type ((cs.drop f.offset).take (P.cellsOf f.type))=xs[i]?)->off+l.length<=cs.length -> Lv enc P w sp B l ((cs.drop off).take l.length) ((xs.map λx=>B x.1).sum)
 | [],[],off,l,h,_,_,_=>by simp[Zfg]at h;subst h;simp;exact .nil _
 | f::fs,[],off,l,h,hl,_,_=>by simp at hl
 | [],x::xs,off,l,h,hl,_,_=>by simp at hl
 | f::fs,x::xs,off,l,h,hl,hx,hc=>by
  simp only[Zfg,Option.bind_eq_bind,Option.bind_eq_some_iff,Option.ite_none_right_eq_some,Option.some.injEq]at h;obtain⟨l1,h1,l2,h2,⟨ho,hcs⟩,rfl⟩:=h;have hx0:=hx 0 f rfl;simp only[List.getElem?_cons_zero]at hx0;rw[ho,hcs]at hx0;have i1:=hg _ _ _ _ h1 hx0;simp only[qy11]at hc;have i2:=Zhc hg (xs:=xs) h2 (by simpa using hl) (λi f' hf=>by have:=hx (i+1) f' (by simpa using hf);simpa using this) (by omega);have e:(cs.drop off).take (l1++l2).length=(cs.drop off).take l1.length++(cs.drop (off+l1.length)).take l2.length:=by rw[qy11,<- List.drop_drop,List.take_add]
  rw[e];exact i2.append i1
theorem Zb1(hB:Bulk B):∀(f:Nat) {t:TypeId} {l:List (TypeId×Kd)} {n:Nat} {cs:List Value} {x:DataW H×List MemPlace},Z4u P f t=some l->DataW.trod enc P w 0 sp true n t cs=some x->Lv enc P w sp B l cs (B x.1)
 | 0,t,l,n,cs,x,h,_=>by simp[Z4u]at h
 | f+1,t,l,n,cs,x,h,hx=>by
  simp only[Z4u]at h;have one:∀(k:Kd) (c:Value),cs=[c]->k.ok c->Lv enc P w sp B [(t,k)] cs (B x.1):=λk c hc hk=>by subst hc;exact .cons ⟨hk,n,x.1,x.2,hx,Nat.le_refl _⟩ (.nil 0) (by omega)
  split at h
  ·rename_i hu;simp at h;subst h;obtain⟨b,rfl,-⟩:=DataW.trod_bool hu hx;exact one _ _ rfl ⟨b,rfl⟩
  ·rename_i k hu;simp at h;subst h;obtain⟨m,rfl,-⟩:=DataW.trod_int hu hx;exact one _ _ rfl ⟨m,rfl⟩
  ·rename_i hu;simp at h;subst h;obtain⟨⟨⟨s⟩⟩,rfl,-⟩:=DataW.trod_string hu hx;exact one _ _ rfl ⟨s,rfl⟩
  ·rename_i e hu;simp at h;subst h;rcases DataW.trod_slice hu hx with⟨rfl,-⟩|⟨a,len,cap,elems,rest,m,-,rfl,-⟩
   ·exact one _ _ rfl rfl
   ·exact one _ _ rfl rfl
  ·rename_i fs hu;split at h
   ·rename_i l' hl;split at h
    ·rename_i hc;simp at h;subst h;obtain⟨xs,m,rfl,rfl,hcl,hxl,hf⟩:=DataW.trod_struct hu hx;have:=Zhc (cs:=cs) (λt l cs x=>Zb1 hB f (t:=t) (l:=l) (n:=m) (cs:=cs) (x:=x)) hl (by simpa using hxl) (λi f hi=>hf i f (by simpa using hi)) (by omega);rw[List.drop_zero,List.take_of_length_le (by omega)]at this;refine this.mono ?_;have:=hB.agg (xs.map (·.1));rw[List.map_map]at this;exact this
    ·cases h
   ·cases h
  ·cases h
theorem Z77(hB:Bulk B){f n:Nat}{t e:TypeId}{ls:List (TypeId×Kd)}{v:Value}{x:DataW H×List MemPlace}(hu:P.underlying t=some (.slice e))(hl:Z4u P f e=some ls)(hc:P.cellsOf e=ls.length)(hpos:0<ls.length) (hx:DataW.trod enc P w 0 sp true n t [v]=some x) : ∃(rows:List (List Value)) (bs:List Nat),reads w v (ls.map (·.2)) rows/\bs.length=rows.length/\(∀(i:Nat) r b,rows[i]?=some r->bs[i]?=some b->Lv enc P w sp B ls r b)/\bs.sum+1<=B x.1:=by
 rcases DataW.trod_slice hu hx with⟨hv,rfl⟩|⟨a,len,cap,elems,rest,m,-,hv,rfl,-,hlc,hcm,hel,hget,-⟩
 ·simp only[List.cons.injEq,and_true]at hv;subst hv;exact⟨[],[],⟨by simp,none,0,rfl,⟨λ_=>rfl,by simp⟩,by simp⟩,rfl,by simp,by simpa using hB.one _⟩
 ·simp only[List.cons.injEq,and_true]at hv;subst hv;rw[hc]at hget;have hrow:∀i,i<len->∃r y,w.cells? 0 (a.add (i*ls.length)) ls.length=some r/\elems[i]?=some y/\DataW.trod enc P w 0 sp true m e r=some y:=λi hi=>by
   have h1:=hget i hi;have h2:elems[i]?=some (elems[i]'(by omega)):=qy7 (by omega);rw[h2,Option.bind_eq_some_iff]at h1;obtain⟨r,h3,h4⟩:=h1;exact⟨r,_,h3,h2,h4⟩
  let rows:=(List.range len).map λi=>(w.cells? 0 (a.add (i*ls.length)) ls.length).getD []
  have hrl:rows.length=len:=by simp[rows]
  have hri:∀i,i<len->∃r y,rows[i]?=some r/\w.cells? 0 (a.add (i*ls.length)) ls.length=some r/\elems[i]?=some y/\Lv enc P w sp B ls r (B y.1):=λi hi=>by obtain⟨r,y,h1,h2,h3⟩:=hrow i hi;exact⟨r,y,by simp[rows,List.getElem?_range hi,h1],h1,h2,Zb1 hB f hl h3⟩
  have hlen:∀r∈rows,r.length=(ls.map (·.2)).length/\rowOk (ls.map (·.2)) r:=λr hr=>by obtain⟨i,hi,hri'⟩:=List.getElem_of_mem hr;obtain⟨r',y,h1,h2,h3,h4⟩:=hri i (by omega);rw[qy7 hi,hri']at h1;simp at h1;subst h1;exact⟨h4.rowOk.length,h4.rowOk⟩
  refine⟨rows,elems.map λy=>B y.1,⟨λr hr=>(hlen r hr).2,some a,cap,by rw[hrl],⟨(λh=>by cases h),by omega⟩,λhne=>⟨a,rfl,λj u hj=>?_⟩⟩,by simp[hrl,hel],λi r b hr hb=>?_,?_⟩
  ·have hL:(ls.map (·.2)).length=ls.length:=by simp
   have hfl:=Zc (λr hr=>(hlen r hr).1);have hjl:j<rows.length*ls.length:=by have:=(List.getElem?_eq_some_iff.1 hj).1;rw[hfl,hL]at this;exact this
   have hi:j / ls.length<len:=by rw[<- hrl];exact Nat.div_lt_of_lt_mul (by rw[Nat.mul_comm];exact hjl)
   obtain⟨r,y,h1,h2,h3,h4⟩:=hri _ hi;have hk:=Nat.mod_lt j hpos;have hjj:j=j / ls.length*ls.length+j % ls.length:=by rw[Nat.mul_comm];exact(Nat.div_add_mod j _).symm
   have:=Z8w (λr hr=>by rw[<- hL];exact(hlen r hr).1) (i:=j / ls.length) (c:=j % ls.length) hk;rw[<- hjj,hj,h1]at this;obtain⟨c1,c2⟩:=World.cells?_some h2;have c3:=c2.2 _ hk;rw[Zcz,<- hjj]at c3;rw[c3];exact this.symm
  ·obtain⟨r',y,h1,h2,h3,h4⟩:=hri i (by rw[<- hrl];exact(List.getElem?_eq_some_iff.1 hr).1);rw[h1]at hr;simp at hr;subst hr;rw[List.getElem?_map,h3]at hb;simp at hb;subst hb;exact h4
  ·have:=hB.slice (elems.map (·.1)) (rest.map (·.1));rw[List.map_map]at this;exact this
theorem Zmz{r:Reach}{b0 base:Nat}{held:Bool}{t:TypeId}{fs:Array Field}{v:Value}{d:DataW H}{ps:List MemPlace}(ht:P.underlying t=some (.struct fs))(hval:Value.okWide P w r b0 t v)(hd:DataW.Trod enc P w base sp held t v d ps) : ∃(cs:List Value) (n:Nat),v=.agg cs.toArray/\DataW.trod enc P w base sp held n t cs=some (d,ps):=by obtain⟨n,hd⟩:=hd;simp only[Value.okWide,ht]at hval;obtain⟨cs,rfl,-⟩:=hval;exact⟨cs.toList,n,by simp,by simpa[Value.cells]using hd⟩
theorem Z110{α:Type}{g:α->Nat}:∀{rows:List α} {bs:List Nat},bs.length=rows.length->(∀(i:Nat) r b,rows[i]?=some r->bs[i]?=some b->g r<=b)->(rows.map g).sum<=bs.sum
 | [],[],_,_=>by simp
 | r::rows,b::bs,hl,h=>by have h0:=h 0 r b rfl rfl;have:=Z110 (rows:=rows) (bs:=bs) (by simpa using hl) (λi r' b' hr hb=>h (i+1) r' b' (by simpa using hr) (by simpa using hb));simp only[List.map_cons,List.sum_cons];omega
 | [],_::_,hl,_=>by simp at hl
 | _::_,[],hl,_=>by simp at hl
theorem Zbz(hB:Bulk B){ls:List (TypeId×Kd)}(h0:ls≠[]){rows:List (List Value)}{bs:List Nat}(hl:bs.length=rows.length)(h:∀(i:Nat) r b,rows[i]?=some r->bs[i]?=some b->Lv enc P w sp B ls r b):rows.length<=bs.sum:=by
 have:=Z110 (g:=λ_:List Value=>1) hl (λi r b hr hb=>by
  cases h i r b hr hb with
  | nil b=>exact absurd rfl h0
  | cons h1 h2 h3=>obtain⟨-,n,d,q,-,h5⟩:=h1;have:=hB.one d;omega)
 have e:(rows.map λ_=>1).sum=rows.length:=by
  clear hl h this;induction rows with
  | nil=>rfl
  | cons r rows ih=>simp only[List.map_cons,List.sum_cons,List.length_cons,ih];omega
 omega
theorem Z5e.str(hB:Bulk B){t:TypeId}(ht:P.underlying t=some .string){s:List UInt8}{b:Nat}(h:Z5e enc P w sp B (t,.str) (.string ⟨s.toArray⟩) b):s.length+1<=b:=by obtain⟨-,n,d,ps,h1,h2⟩:=h;obtain⟨s',h3,h4⟩:=DataW.trod_string ht h1;simp only[List.cons.injEq,Value.string.injEq,and_true]at h3;subst h3;simp only[Prod.mk.injEq]at h4;obtain⟨⟨rfl,-⟩,-⟩:=h4;have:=hB.str s;omega
end
end Go.Sx
namespace Go.Proofs.Y
open Go Go.Sx Go.ChangeShapes Go.WideShapes Go.ChangeAt Go.RowKit
section
variable {H:Type} {enc:TypeId×Value->H} {w:World} {sp:Nat->Bool} {B:DataW H->Nat}
def Zdq(P:Program)(t:TypeId):Bool:=match P.underlying t with|some (.struct _)=>true|_=>false
theorem Zcf{P:Program}{r:Reach}{b0 base:Nat}{held:Bool}{t:TypeId}{v:Value}{d:DataW H}{ps:List MemPlace}(ht:Zdq P t=true)(hval:Value.okWide P w r b0 t v)(hd:DataW.Trod enc P w base sp held t v d ps) : ∃(cs:List Value) (n:Nat),v=.agg cs.toArray/\DataW.trod enc P w base sp held n t cs=some (d,ps):=by
 unfold Zdq at ht;split at ht
 ·exact Zmz (by assumption) hval hd
 ·cases ht
end
end Go.Proofs.Y
namespace Go.Proofs.Y
open Go Go.Sx Go.ChangeShapes Go.WideShapes Go.ChangeAt Go.RowKit
section
variable {H:Type} {enc:TypeId×Value->H} {w:World} {sp:Nat->Bool} {B:DataW H->Nat}
theorem Z16k{rows:List (List Value)}(h:∀r∈rows,rowOk [.int .i64,.str] r):∃os,rows=List.map encO os:=by
 induction rows with
 | nil=>exact⟨[],rfl⟩
 | cons r rows ih =>
  obtain⟨ps,hps⟩:=ih λr hr=>h r (qy10 _ hr);have h0:=h r (qy8 ..)
  match r,h0 with
  | [_,_],⟨⟨a,rfl⟩,⟨b,rfl⟩,_⟩=>exact⟨(a,b)::ps,by rw[hps];rfl⟩
theorem Z16l(hB:Bulk B)(h1:Tryz.prog.underlying 48=some (.slice 113))(h2:Z4u Tryz.prog 8 113=some [(3,.int .i64),(9,.str)])(h3:Tryz.prog.cellsOf 113=2){cs:List Value}{b:Nat} (h:Lv enc Tryz.prog w (λ_=>true) B [(3,.int .i64),(3,.int .i64),(3,.int .i64),(9,.str),(48,.oth),(9,.str)] cs b) : ∃(m:Msg) (v:Value),Value.agg cs.toArray=mV m (sc1 v)/\Z2d w v m.opts/\m.tok.length+m.opts.length+m.pay.length<=b:=by
 cases h with
 | cons c1 h e1 =>
 cases h with
 | cons c2 h e2 =>
 cases h with
 | cons c3 h e3 =>
 cases h with
 | cons c4 h e4 =>
 cases h with
 | cons c5 h e5 =>
 cases h with
 | cons c6 h e6 =>
 cases h;obtain⟨k,rfl⟩:=c1.1;obtain⟨c,rfl⟩:=c2.1;obtain⟨j,rfl⟩:=c3.1;obtain⟨t,rfl⟩:=c4.1;obtain⟨p,rfl⟩:=c6.1;have q4:=Z5e.str hB Tryz.underlying9 c4;have q6:=Z5e.str hB Tryz.underlying9 c6;obtain⟨-,n,d,ps,hx,hb⟩:=c5;obtain⟨rows,bs,rd,bl,lv,bk⟩:=Z77 hB (f:=8) h1 h2 h3 (by decide) hx;have rl:=Zbz hB (by decide) bl lv;obtain⟨os,rfl⟩:=Z16k rd.1;rw[qy3]at rl;simp only at bk;exact⟨⟨k,c,j,t,os,p⟩,_,by rw[rd.sc1];rfl,rd,by simp only;omega⟩
end
end Go.Proofs.Y
namespace Go.Proofs.Y
open Go Go.Sx Go.ChangeShapes Go.WideShapes Go.ChangeAt Go.RowKit
section
variable {H:Type} {enc:TypeId×Value->H} {w:World} {sp:Nat->Bool} {B:DataW H->Nat}
theorem Z17h(hB:Bulk B){cs:List Value}{b:Nat}(h:Lv enc Tryz.prog w sp B [(3,.int .i64),(9,.str),(9,.str)] cs b):∃o:Fl,cs=encF o/\o.2.1.length+o.2.2.length+1<=b:=by
 cases h with
 | cons c1 h e1 =>
 cases h with
 | cons c2 h e2 =>
 cases h with
 | cons c3 h e3 =>
 cases h;obtain⟨p,rfl⟩:=c1.1;obtain⟨t,rfl⟩:=c2.1;obtain⟨n,rfl⟩:=c3.1;have q2:=Z5e.str hB Tryz.underlying9 c2;have q3:=Z5e.str hB Tryz.underlying9 c3;exact⟨(p,t,n),rfl,by simp only;omega⟩
theorem Z111(hB:Bulk B):∀{rows:List (List Value)} {bs:List Nat},bs.length=rows.length->(∀(i:Nat) r b,rows[i]?=some r->bs[i]?=some b->Lv enc Tryz.prog w sp B [(3,.int .i64),(9,.str),(9,.str)] r b) -> ∃l:List Fl,rows=l.map encF/\∀x∈l,x.2.1.length<=bs.sum:=by
 intro rows;induction rows with
 | nil=>exact λ_ _=>⟨[],rfl,by simp⟩
 | cons r rows ih =>
  intro bs hl h
  match bs,hl with
  | b::bs,hl =>
   obtain⟨l,e,hb⟩:=ih (bs:=bs) (by simpa using hl) (λi r' b' h1 h2=>h (i+1) r' b' (by simpa using h1) (by simpa using h2));obtain⟨o,rfl,hob⟩:=Z17h hB (h 0 r b rfl rfl);refine⟨o::l,by rw[e];rfl,?_⟩;intro x hx;rw[List.sum_cons];rcases List.mem_cons.1 hx with rfl|hx
   ·omega
   ·have:=hb x hx;omega
theorem Z16m(hB:Bulk B)(h1:Tryz.prog.underlying 62=some (.slice 132))(h2:Z4u Tryz.prog 8 132=some [(3,.int .i64),(9,.str),(9,.str)])(h3:Tryz.prog.cellsOf 132=3){cs:List Value}{b:Nat} (h:Lv enc Tryz.prog w (λ_=>true) B [(9,.str),(4,.bool),(4,.bool),(62,.oth),(62,.oth),(3,.int .i64)] cs b) : ∃(s:Ses) (u v:Value),Value.agg cs.toArray=sesV s u v/\Zk w u s.fl/\Zk w v s.qu/\s.cl.length+s.fl.length+s.qu.length<=b/\(∀x∈s.fl,x.2.1.length<=b)/\(∀x∈s.qu,x.2.1.length<=b):=by
 cases h with
 | cons c1 h e1 =>
 cases h with
 | cons c2 h e2 =>
 cases h with
 | cons c3 h e3 =>
 cases h with
 | cons c4 h e4 =>
 cases h with
 | cons c5 h e5 =>
 cases h with
 | cons c6 h e6 =>
 cases h;obtain⟨k,rfl⟩:=c1.1;obtain⟨c,rfl⟩:=c2.1;obtain⟨j,rfl⟩:=c3.1;obtain⟨p,rfl⟩:=c6.1;have q1:=Z5e.str hB Tryz.underlying9 c1;obtain⟨-,n,d,ps,hx,hb⟩:=c4;obtain⟨rows,bs,rd,bl,lv,bk⟩:=Z77 hB (f:=8) h1 h2 h3 (by decide) hx;have rl:=Zbz hB (by decide) bl lv;obtain⟨l,rfl,hs⟩:=Z111 hB bl lv;obtain⟨-,n',d',ps',hx',hb'⟩:=c5;obtain⟨rows',bs',rd',bl',lv',bk'⟩:=Z77 hB (f:=8) h1 h2 h3 (by decide) hx';have rl':=Zbz hB (by decide) bl' lv';obtain⟨l',rfl,hs'⟩:=Z111 hB bl' lv';rw[qy3]at rl rl';simp only at bk bk';exact⟨⟨k,c,j,l,l',p⟩,_,_,by rw[sesV,rd.sc1,rd'.sc1],rd,rd',by simp only;omega,λx hx=>by have:=hs x hx;omega,λx hx=>by have:=hs' x hx;omega⟩
end
end Go.Proofs.Y
namespace Go.Proofs.Y
open Go Go.Sx Go.ChangeShapes Go.WideShapes Go.ChangeAt Go.RowKit
section
variable {H:Type} {enc:TypeId×Value->H} {w:World} {sp:Nat->Bool} {B:DataW H->Nat}
theorem Z149(hB:Bulk B){cs:List Value}{b:Nat}(h:Lv enc Tryz.prog w sp B [(9,.str),(9,.str),(3,.int .i64)] cs b):∃o:Kp,cs=encK o/\o.1.length+o.2.1.length+1<=b:=by
 cases h with
 | cons c1 h e1 =>
 cases h with
 | cons c2 h e2 =>
 cases h with
 | cons c3 h e3 =>
 cases h;obtain⟨p,rfl⟩:=c1.1;obtain⟨t,rfl⟩:=c2.1;obtain⟨n,rfl⟩:=c3.1;have q1:=Z5e.str hB Tryz.underlying9 c1;have q2:=Z5e.str hB Tryz.underlying9 c2;exact⟨(p,t,n),rfl,by simp only;omega⟩
theorem Z16n(hB:Bulk B):∀{rows:List (List Value)} {bs:List Nat},bs.length=rows.length->(∀(i:Nat) r b,rows[i]?=some r->bs[i]?=some b->Lv enc Tryz.prog w sp B [(9,.str),(9,.str),(3,.int .i64)] r b) -> ∃l:List Kp,rows=l.map encK/\∀x∈l,x.1.length<=bs.sum:=by
 intro rows;induction rows with
 | nil=>exact λ_ _=>⟨[],rfl,by simp⟩
 | cons r rows ih =>
  intro bs hl h
  match bs,hl with
  | b::bs,hl =>
   obtain⟨l,e,hb⟩:=ih (bs:=bs) (by simpa using hl) (λi r' b' h1 h2=>h (i+1) r' b' (by simpa using h1) (by simpa using h2));obtain⟨o,rfl,hob⟩:=Z149 hB (h 0 r b rfl rfl);refine⟨o::l,by rw[e];rfl,?_⟩;intro x hx;rw[List.sum_cons];rcases List.mem_cons.1 hx with rfl|hx
   ·omega
   ·have:=hb x hx;omega
end
end Go.Proofs.Y
namespace Go.Proofs.Y
open Go Go.Sx Go.ChangeShapes Go.WideShapes Go.ChangeAt Go.RowKit
section
variable {H:Type} {enc:TypeId×Value->H} {w:World} {sp:Nat->Bool} {B:DataW H->Nat}
theorem Z14a(hB:Bulk B){cs:List Value}{b:Nat}(h:Lv enc Tryz.prog w sp B [(9,.str),(9,.str),(3,.int .i64)] cs b):∃o:Wt,cs=Za o/\o.1.length+o.2.1.length+1<=b:=by
 cases h with
 | cons c1 h e1 =>
 cases h with
 | cons c2 h e2 =>
 cases h with
 | cons c3 h e3 =>
 cases h;obtain⟨p,rfl⟩:=c1.1;obtain⟨t,rfl⟩:=c2.1;obtain⟨n,rfl⟩:=c3.1;have q1:=Z5e.str hB Tryz.underlying9 c1;have q2:=Z5e.str hB Tryz.underlying9 c2;exact⟨(p,t,n),rfl,by simp only;omega⟩
theorem Z16o(hB:Bulk B):∀{rows:List (List Value)} {bs:List Nat},bs.length=rows.length->(∀(i:Nat) r b,rows[i]?=some r->bs[i]?=some b->Lv enc Tryz.prog w sp B [(9,.str),(9,.str),(3,.int .i64)] r b) -> ∃l:List Wt,rows=l.map Za/\∀x∈l,x.1.length<=bs.sum/\x.2.1.length<=bs.sum:=by
 intro rows;induction rows with
 | nil=>exact λ_ _=>⟨[],rfl,by simp⟩
 | cons r rows ih =>
  intro bs hl h
  match bs,hl with
  | b::bs,hl =>
   obtain⟨l,e,hb⟩:=ih (bs:=bs) (by simpa using hl) (λi r' b' h1 h2=>h (i+1) r' b' (by simpa using h1) (by simpa using h2));obtain⟨o,rfl,hob⟩:=Z14a hB (h 0 r b rfl rfl);refine⟨o::l,by rw[e];rfl,?_⟩;intro x hx;rw[List.sum_cons];rcases List.mem_cons.1 hx with rfl|hx
   ·omega
   ·have:=hb x hx;omega
end
end Go.Proofs.Y
namespace Go.Proofs.Y
open Go Go.Sx Go.ChangeShapes Go.WideShapes Go.ChangeAt Go.RowKit
section
variable {H:Type} {enc:TypeId×Value->H} {w:World} {sp:Nat->Bool} {B:DataW H->Nat}
theorem Z16p(hB:Bulk B){cs:List Value}{b:Nat}(h:Lv enc Tryz.prog w sp B [(3,.int .i64),(9,.str),(9,.str),(3,.int .i64)] cs b):∃o:Wat,cs=Z7 o/\o.2.1.length+o.2.2.1.length+2<=b:=by
 cases h with
 | cons c1 h e1 =>
 cases h with
 | cons c2 h e2 =>
 cases h with
 | cons c3 h e3 =>
 cases h with
 | cons c4 h e4 =>
 cases h;obtain⟨p,rfl⟩:=c1.1;obtain⟨t,rfl⟩:=c2.1;obtain⟨n,rfl⟩:=c3.1;obtain⟨k,rfl⟩:=c4.1;have q2:=Z5e.str hB Tryz.underlying9 c2;have q3:=Z5e.str hB Tryz.underlying9 c3;exact⟨(p,t,n,k),rfl,by simp only;omega⟩
theorem Z16q(hB:Bulk B):∀{rows:List (List Value)} {bs:List Nat},bs.length=rows.length->(∀(i:Nat) r b,rows[i]?=some r->bs[i]?=some b->Lv enc Tryz.prog w sp B [(3,.int .i64),(9,.str),(9,.str),(3,.int .i64)] r b) -> ∃l:List Wat,rows=l.map Z7/\∀x∈l,x.2.2.1.length<=bs.sum:=by
 intro rows;induction rows with
 | nil=>exact λ_ _=>⟨[],rfl,by simp⟩
 | cons r rows ih =>
  intro bs hl h
  match bs,hl with
  | b::bs,hl =>
   obtain⟨l,e,hb⟩:=ih (bs:=bs) (by simpa using hl) (λi r' b' h1 h2=>h (i+1) r' b' (by simpa using h1) (by simpa using h2));obtain⟨o,rfl,hob⟩:=Z16p hB (h 0 r b rfl rfl);refine⟨o::l,by rw[e];rfl,?_⟩;intro x hx;rw[List.sum_cons];rcases List.mem_cons.1 hx with rfl|hx
   ·omega
   ·have:=hb x hx;omega
end
end Go.Proofs.Y
namespace Go.Proofs.Y
open Go Go.Sx Go.ChangeShapes Go.WideShapes Go.ChangeAt Go.RowKit
theorem tyk1:Tryz.prog.underlying 22=some (.slice 89):=by kernel_rfl
theorem tyk2:Z4u Tryz.prog 8 89=some [(9,.str),(9,.str),(3,.int .i64)]:=by kernel_rfl
theorem tyk3:Tryz.prog.cellsOf 89=3:=by kernel_rfl
theorem tyw1:Tryz.prog.underlying 23=some (.slice 71):=by kernel_rfl
theorem tyw2:Z4u Tryz.prog 8 71=some [(9,.str),(9,.str),(3,.int .i64)]:=by kernel_rfl
theorem tyw3:Tryz.prog.cellsOf 71=3:=by kernel_rfl
theorem tys1:Tryz.prog.underlying 24=some (.slice 64):=by kernel_rfl
theorem tys2:Z4u Tryz.prog 8 64=some [(9,.str),(4,.bool),(4,.bool),(62,.oth),(62,.oth),(3,.int .i64)]:=by kernel_rfl
theorem tys3:Tryz.prog.cellsOf 64=6:=by kernel_rfl
theorem tyf1:Tryz.prog.underlying 62=some (.slice 132):=by kernel_rfl
theorem tyf2:Z4u Tryz.prog 8 132=some [(3,.int .i64),(9,.str),(9,.str)]:=by kernel_rfl
theorem tyf3:Tryz.prog.cellsOf 132=3:=by kernel_rfl
theorem tya1:Tryz.prog.underlying 25=some (.slice 74):=by kernel_rfl
theorem tya2:Z4u Tryz.prog 8 74=some [(3,.int .i64),(9,.str),(9,.str),(3,.int .i64)]:=by kernel_rfl
theorem tya3:Tryz.prog.cellsOf 74=4:=by kernel_rfl
section
variable {H:Type} {enc:TypeId×Value->H} {w:World} {B:DataW H->Nat}
theorem Z14b(hB:Bulk B){P:Program}{sp:Nat->Bool}{ls:List (TypeId×Kd)}{cs:List Value}{b:Nat}(h:Lv enc P w sp B ls cs b):ls.length<=b:=by
 induction h with
 | nil b=>exact Nat.zero_le _
 | cons h1 h2 h3 ih =>
  obtain⟨-,n,d,ps,-,h5⟩:=h1;have:=hB.one d;rw[List.length_cons];omega
theorem Z14c(hB:Bulk B):∀{rows:List (List Value)} {bs:List Nat},bs.length=rows.length->(∀(i:Nat) r b,rows[i]?=some r->bs[i]?=some b->Lv enc Tryz.prog w (λ_=>true) B [(9,.str),(4,.bool),(4,.bool),(62,.oth),(62,.oth),(3,.int .i64)] r b) -> ∃l:List SesX,rows=l.map Zf/\(Z6 l []).holds w/\(∀t∈l,t.1.cl.length+t.1.fl.length+t.1.qu.length<=bs.sum/\(∀x∈t.1.fl,x.2.1.length<=bs.sum)/\∀x∈t.1.qu,x.2.1.length<=bs.sum)/\6*l.length<=bs.sum:=by
 intro rows;induction rows with
 | nil=>exact λ_ _=>⟨[],rfl,Z75 w,by simp,by simp⟩
 | cons r rows ih =>
  intro bs hl h
  match bs,hl with
  | b::bs,hl =>
   obtain⟨l,e,hp,hb,hn⟩:=ih (bs:=bs) (by simpa using hl) (λi r' b' h1 h2=>h (i+1) r' b' (by simpa using h1) (by simpa using h2));have hlv:=h 0 r b rfl rfl;have hle:=Z14b hB hlv;obtain⟨s,u,v,e2,ru,rv,z1,z2,z3⟩:=Z16m hB tyf1 tyf2 tyf3 hlv;have e3:r=Zf (s,u,v):=by have e4:=Value.agg.inj e2;have e5:=congrArg Array.toList e4;exact e5
   refine⟨(s,u,v)::l,by rw[e,e3];rfl,?_,?_,?_⟩
   ·refine Z11 (l:=l) (o:=[]) (λt ht=>?_) (λt ht=>.inl ht) hp;rcases List.mem_cons.1 ht with rfl|ht
    ·exact .inr ⟨ru,rv⟩
    ·exact .inl ht
   ·intro t ht;rw[List.sum_cons];rcases List.mem_cons.1 ht with rfl|ht
    ·exact⟨by simp only;omega,λx hx=>by have:=z2 x hx;omega,λx hx=>by have:=z3 x hx;omega⟩
    ·obtain⟨q1,q2,q3⟩:=hb t ht;exact⟨by omega,λx hx=>by have:=q2 x hx;omega,λx hx=>by have:=q3 x hx;omega⟩
   ·simp only[List.length_cons,List.length_nil]at hle;rw[List.sum_cons,List.length_cons];omega
theorem Z16r(hB:Bulk B){cs:List Value}{b:Nat}(h:Lv enc Tryz.prog w (λ_=>true) B [(22,.oth),(23,.oth),(24,.oth),(25,.oth),(3,.int .i64)] cs b)(hb:b<=4000000) : ∃x:TelX,Value.agg cs.toArray=bkV x/\x.ox=[]/\RdX w x/\SmlT x.tel:=by
 cases h with
 | cons c1 h e1 =>
 cases h with
 | cons c2 h e2 =>
 cases h with
 | cons c3 h e3 =>
 cases h with
 | cons c4 h e4 =>
 cases h with
 | cons c5 h e5 =>
 cases h;obtain⟨n,rfl⟩:=c5.1;obtain⟨-,n1,d1,ps1,hx1,hb1⟩:=c1;obtain⟨rows1,bs1,rd1,bl1,lv1,bk1⟩:=Z77 hB (f:=8) tyk1 tyk2 tyk3 (by decide) hx1;have rl1:=Zbz hB (by decide) bl1 lv1;obtain⟨l1,rfl,s1⟩:=Z16n hB bl1 lv1;obtain⟨-,n2,d2,ps2,hx2,hb2⟩:=c2;obtain⟨rows2,bs2,rd2,bl2,lv2,bk2⟩:=Z77 hB (f:=8) tyw1 tyw2 tyw3 (by decide) hx2;have rl2:=Zbz hB (by decide) bl2 lv2;obtain⟨l2,rfl,s2⟩:=Z16o hB bl2 lv2;obtain⟨-,n3,d3,ps3,hx3,hb3⟩:=c3;obtain⟨rows3,bs3,rd3,bl3,lv3,bk3⟩:=Z77 hB (f:=8) tys1 tys2 tys3 (by decide) hx3;obtain⟨l3,rfl,p3,s3,k3⟩:=Z14c hB bl3 lv3;obtain⟨-,n4,d4,ps4,hx4,hb4⟩:=c4;obtain⟨rows4,bs4,rd4,bl4,lv4,bk4⟩:=Z77 hB (f:=8) tya1 tya2 tya3 (by decide) hx4;have rl4:=Zbz hB (by decide) bl4 lv4;obtain⟨l4,rfl,s4⟩:=Z16q hB bl4 lv4;rw[qy3]at rl1 rl2 rl4;simp only at bk1 bk2 bk3 bk4;refine⟨⟨l1,l2,l3,l4,n,[],_,_,_,_,.slice none 0 0⟩,by rw[bkV,rd1.sc1,rd2.sc1,rd3.sc1,rd4.sc1],rfl,⟨rd1,rd2,rd3,p3,rd4⟩,?_⟩;refine⟨λx hx=>by have:=s1 x hx;omega,by show l1.length<_;omega,λx hx=>?_,by show l2.length<_;omega,λs hs=>?_,?_,λx hx=>?_,by show l4.length<_;omega⟩
 ·have:=s2 x hx;exact⟨by omega,by omega⟩
 ·obtain⟨t,ht,rfl⟩:=List.mem_map.1 hs;obtain⟨q1,q2,q3⟩:=s3 t ht;exact⟨λx hx=>by have:=q2 x hx;omega,λx hx=>by have:=q3 x hx;omega,by omega,by omega,by omega⟩
 ·show(l3.map (·.1)).length<_
  rw[qy3];omega
 ·have:=s4 x hx;omega
end
