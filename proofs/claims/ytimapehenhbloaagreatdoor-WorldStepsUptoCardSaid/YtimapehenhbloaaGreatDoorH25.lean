/- By an AI agent. -/
import Derived.Shelf.RegionOpenPlain
import Derived.Lib.Strings
import Derived.Lib.Slices
import Derived.Lib.Walk
import Derived.Lib.Builder
import Derived.Lib.AppendStr
import Derived.Lib.UnsafeStr
import Derived.Test.YtimapehenhbloaaGreatDoorH24
set_option linter.all false
set_option maxHeartbeats 20000000
set_option maxRecDepth 100000
open Nat renaming reduceAdd→ra
open List renaming mem_flatMap→ϐ,mem_filter→ϒ,length_nil→ϖ,length_cons→ϗ,map_append→Ϙ,mem_append_right→ϙ,pairwise_cons→Ϛ,filter_cons→Ϝ,append_nil→Ϣ,mem_append_left→ϣ,map_cons→Ϥ,mem_cons→ϥ,map_nil→Ϧ,nil_append→Ϩ,flatten_append→ϫ,length_eq_zero_iff→Ϭ,flatten_cons→Ϯ,append_assoc→ϯ,nodup_append→ϰ,flatten_nil→ϲ,getElem_mem→ϳ,not_mem_nil→Ϸ,eq_nil_of_length_eq_zero→ϸ,pairwise_append→Ϲ,filter_sublist→Ϻ,getElem?_map→ϻ,map_congr_left→ε,mem_map→η,take_add_one→μ,take_length→υ,any_eq_true→φ,cons_append→χ,drop_length→ψ,foldl_nil→ω,cons→Δ
open Option renaming some→ϑ,none→ϕ,map_eq_some_iff→ϭ,toList_some→ζ,getD_some→π
open Go.Proofs.Tryz renaming prog→ϓ
open Go renaming Value→ϔ,World→Ϫ,Calls→β
open Bool renaming true→Ϟ,false_eq_true→ϧ,noConfusion→γ,false→δ,eq_false_iff→ν,or_true→ξ,or_false→Γ
open Array renaming getElem?_eq_some_iff→Ϡ,getElem?_modify→ϱ
open Nat renaming reduceAdd→ϩ,le_trans→θ,le_refl→Θ
namespace Go.Proofs.Y
open Go.Sx Go.RowKit
def Z14c:(Tryz.prog.info? 209).map (·.size)=ϑ 2:=O2
def Z1es:(Tryz.prog.info? 5).map (λi=>(i.zero,i.size,i.bytes))=ϑ (ϑ (.int .u8 0),1,1):=O2
variable(ty:Nat)
noncomputable def Z1et(n:Nat):Bool:=liesAt ϓ Tryz.prog.depth ty (n / Tryz.prog.cellsOf ty) 0 209 1
def Zek(b:Nat)(w:Ϫ)(h0:w.cell? ⟨b,0,ϕ⟩=ϑ (.pointer (ϑ ⟨b,0,ϕ⟩))): β ϓ 229 #[.pointer (ϑ ⟨b,0,ϕ⟩)] w λe w'=>e=.returned (.tuple #[])/\w'=w:=by
 obtain⟨j,hj,_⟩:=ϭ.1 Z14c;go_enter Tryz.func229,Tryz.ntmps229;go_wp2
 rw[Lib.run_neq_ptr_same w _ Tryz.underlying206 hj];go_wp2;go_end0
 exact⟨rfl,rfl⟩
def Zcy(n b:Nat)(w:Ϫ)(hT:Z1et ty n=Ϟ)(hn:0<n)(h0:w.cell? ⟨b,0,ϕ⟩=ϑ (.pointer ϕ))(hsh:w.shape? b=ϑ (ty,n))(hfz:w.frozen? ⟨b,0,ϕ⟩=δ): β ϓ 229 #[.pointer (ϑ ⟨b,0,ϕ⟩)] w λe w'=>e=.returned (.tuple #[])/\w'=w.setCell ⟨b,0,ϕ⟩ (.pointer (ϑ ⟨b,0,ϕ⟩)):=by
 obtain⟨j,hj,hjs⟩:=ϭ.1 Z14c;go_enter Tryz.func229,Tryz.ntmps229;go_wp2
 rw[Lib.run_to_unsafe w ⟨b,0,ϕ⟩ Tryz.underlying206 Tryz.underlying280 hj (by rw[hjs];decide) hsh hn];simp only[Result.andThen];rw[Oper.upon_value];go_wp2;rw[run_callFunc_extern Tryz.func265 O2 O2 O2 (e:=Extern.AbiNoEscape.same) O2];rw[Lib.run_noEscape];simp only[Result.andThen];rw[Oper.upon_value];go_wp2;rw[Lib.run_from_unsafe w ⟨b,0,ϕ⟩ Tryz.underlying280 Tryz.underlying206 hj hsh hT];simp only[Result.andThen];rw[Oper.upon_value];go_wp2;go_end0
 exact⟨rfl,rfl⟩
def Z19q:∃i0,Tryz.prog.info? 5=ϑ i0/\i0.zero=ϑ (.int .u8 0)/\i0.size=1/\i0.bytes=1:=by obtain⟨i0,hi,h⟩:=ϭ.1 Z1es;simp only[Prod.mk.injEq]at h;exact⟨i0,hi,h.1,h.2.1,h.2.2⟩
def Z43{w:Ϫ}{b ty:Nat}{cs:List ϔ}(h:w.heap[b]?=ϑ (.cells cs.toArray ty (0,0)))(j:Nat):w.cell? ⟨b,j,ϕ⟩=cs[j]?:=by rw[Lib.cell_of_heap h];simp
def Zxb(s:By):(s.map λb=>[Value.int .u8 (b.toNat:Int)]).flatten=Lib.strCells ⟨s.toArray⟩:=by simp[Lib.strCells];induction s<;>simp_all
def Z14d(s:By):∀r∈s.map λb=>[Value.int .u8 (b.toNat:Int)],rowOk [.int .u8] r:=by intro r hr;obtain⟨b,-,rfl⟩:=η.1 hr;exact⟨⟨_,rfl⟩,trivial⟩
section
variable {P:Program} {w:Ϫ}
def Z105(t u ty e:TypeId)(i:TypeInfo)(ht:P.underlying t=ϑ (.slice e))(hu:P.underlying u=ϑ .string)(hi:P.info? e=ϑ i)(hz:i.zero=ϑ (.int .u8 0))(hsize:i.size=1)(hby:i.bytes=1)(v:ϔ)(n:Nat)(xs:List ϔ)(hown:w.ownsRow 0 e 1 v n xs)(s:ByteArray)(hb:n+s.size<=140737488355328): ∃v' w',(Builtin.append_ #[t,u] ty #[v,.string s]).run P w=.ok v' w'/\w'.ownsRow 0 e 1 v' (n+s.size) (xs++Lib.strCells s)/\w.grownBy w' v.ownBlock /\ ∀k,v'.ownBlock=ϑ k->v.ownBlock=ϑ k\/w.heap.size<=k:=by
  have h63:n+s.size<=maxLen:=by unfold maxLen;omega
  obtain⟨v',w',h1,h2,h3,-⟩:=Lib.run_append_own_string (w:=w) 0 t u ty e i ht hu hi hz hsize hby v n xs hown s h63 hb (Nat.zero_le _);refine⟨v',w',h1,h2,h3,λk hk=>?_⟩;have hxl:xs.length=n:=by simpa using hown.1
  rcases hown.2 with⟨rfl,rfl⟩|⟨g,cap,cur,rfl,hbg,hg,hnc,hcm,hcs,htake⟩
  . have hx:xs=[]:=ϸ hxl;obtain⟨v2,w2,k1,k2,k3,-⟩:=Lib.run_append_own_string (w:=w) w.heap.size t u ty e i ht hu hi hz hsize hby (.slice ϕ 0 0) 0 [] (World.ownsRow_nil _ _ _ _) s h63 hb (Θ _);rw[h1]at k1;obtain⟨rfl,rfl⟩:=k1;exact .inr (k2.lt k hk).1
  by_cases hroom:n+s.size<=cap
  . have hr:=Lib.run_append_room_string w t u ty e i ht hu hi hsize g n cap cur hg s hroom (by unfold maxLen at h63;omega);rw[h1]at hr;obtain⟨rfl,-⟩:=hr;exact .inl hk
  have holds:∀j u,xs[j]?=ϑ u->w.cell? ((⟨g,0,ϕ⟩:Addr).add j)=ϑ u:=hown.cells (g:=g) rfl;have hr:=Lib.run_append_grow_string w t u ty e i (.int .u8 0) ht hu hi hz ⟨g,0,ϕ⟩ n cap xs (by rw[hsize];simpa using hxl) holds s O (by unfold maxLen at h63;omega) (by rw[hby];exact growslice_fits O O);rw[h1]at hr;obtain⟨rfl,-⟩:=hr;simp[Value.ownBlock]at hk;exact .inr O
def Zg3{ops:Array Oper}{rest:List Oper}{o:Oper}{a:Act}{Q:Exit->Act->Ϫ->Prop}(hgd:o.guard=ϕ)(sl x:Operand)(t u:TypeId)(ho:o.op=.call { callee:=.builtin .append,args:=#[sl,x],argTypes:=#[t,u] })
  (e:TypeId) (i:TypeInfo) (ht:P.underlying t=ϑ (.slice e)) (hu:P.underlying u=ϑ .string) (hi:P.info? e=ϑ i) (hz:i.zero=ϑ (.int .u8 0))
  (hsize:i.size=1) (hby:i.bytes=1) (v:ϔ) (n:Nat) (xs:List ϔ) (hs:a.eval sl=v) (hown:w.ownsRow 0 e 1 v n xs) (s:ByteArray) (hx:a.eval x=.string s) (hb:n+s.size<=140737488355328)
  (h:∀v' w',w'.ownsRow 0 e 1 v' (n+s.size) (xs++Lib.strCells s)->w.grownBy w' v.ownBlock->(∀k,v'.ownBlock=ϑ k->v.ownBlock=ϑ k\/w.heap.size<=k)->wpList P ops Q rest (a.put o.dst v') w') :
  wpList P ops Q (o::rest) a w:=by
 refine wpList_plain hgd λK hK=>?_;obtain⟨v',w',hr,h2,h3,h4⟩:=Z105 t u o.type e i ht hu hi hz hsize hby v n xs hown s hb;unfold Oper.wp execOp;simp only[ho,resolve,invoke,builtin,Sem.run_bind,Sem.run_pure,Result.andThen_ok,List.map_toArray,Ϥ,Ϧ,hs,hx,hr];exact hK _ _ (h v' w' h2 h3 h4)
end
def Zk2(b:Nat)(p v:ϔ)(rest:List ϔ)(rows:List (List ϔ))(s:By)(w:Ϫ)(hT:Z1et ty (rest.length+2)=Ϟ)(hty:ty≠5)(hb:w.heap[b]?=ϑ (.cells (p::v::rest).toArray ty (0,0)))(hp:p=.pointer ϕ\/p=.pointer (ϑ ⟨b,0,ϕ⟩))(hown:owns w v 5 [.int .u8] rows)(hlen:rows.length+s.length<=140737488355328): β ϓ 194 #[.pointer (ϑ ⟨b,0,ϕ⟩),.string ⟨s.toArray⟩] w λe w'=>e=.returned (.tuple #[.int .i64 s.length,.nilIface]) /\ ∃v',w'.heap[b]?=ϑ (.cells (.pointer (ϑ ⟨b,0,ϕ⟩)::v'::rest).toArray ty (0,0))/\owns w' v' 5 [.int .u8] (rows++s.map λb=>[Value.int .u8 (b.toNat:Int)]) /\ Mod (b::v.ownBlock.toList) w w'/\∀k,Z1 v' k->w.heap.size<=k\/k∈v.ownBlock.toList:=by
 obtain⟨i0,hi,hz0,hz1,hz2⟩:=Z19q;have hne:∀k,v.ownBlock=ϑ k->k≠b:=λk hk e=>by
  subst e;rcases hown.2.2 with⟨hv,-⟩|⟨g,cap,cur,hv,-,hg,-⟩
  ·rw[hv]at hk;cases hk
  rw[hv]at hk;simp[Value.ownBlock]at hk;subst hk;rw[hb]at hg;simp at hg;exact hty hg.2
 have hlt:b<w.heap.size:=(Ϡ.1 hb).1;have hchk:β ϓ 229 #[.pointer (ϑ ⟨b,0,ϕ⟩)] w λe w'=>e=.returned (.tuple #[])/\w'.heap[b]?=ϑ (.cells (.pointer (ϑ ⟨b,0,ϕ⟩)::v::rest).toArray ty (0,0))/\Mod [b] w w':=by
  rcases hp with rfl|rfl
  ·refine(Zcy ty (rest.length+2) b w hT O (Z43 hb 0) (by simp[World.shape?,hb]) (Lib.frozen_of_heap hb 0)).mono ?_;rintro e w' ⟨rfl,rfl⟩;refine⟨rfl,?_,Mod.setCell _ _ _ (.inl O1)⟩;simp[World.setCell,ϱ,hb]
  refine(Zek b w (Z43 hb 0)).mono ?_;rintro e w' ⟨rfl,rfl⟩;exact⟨rfl,hb,Mod.refl _ _⟩
 have e240:∀args w,(callFunc 229 args).run ϓ w=.ok (.enter 229 args) w:=enters_of Tryz.func229 O2 rfl;go_enter Tryz.func194,Tryz.ntmps194;go_wp2_with (go_at_fn 229;refine hchk.mono ?_)
 rintro e w1 ⟨rfl,hbk,hm1⟩;have hown1:owns w1 v 5 [.int .u8] rows:=owns.stable hown λk hk=>hm1.block k (hown.2.lt k hk).2 (by simpa using hne k hk);have c0:w1.cell? ⟨b,0,ϕ⟩=ϑ (.pointer (ϑ ⟨b,0,ϕ⟩)):=Z43 hbk 0;have c1:w1.cell? ⟨b,1,ϕ⟩=ϑ v:=Z43 hbk 1;have ho1:=hown1.2;have hfl:rows.flatten.length=rows.length:=by have:=ho1.1;simpa using this
 go_wp2_with (at_builtin;refine Zg3 rfl _ _ 207 9 rfl 5 i0 Tryz.underlying207 Tryz.underlying9 hi hz0 hz1 hz2 _ _ _ rfl ho1 ⟨s.toArray⟩ rfl ?c4 ?_)
 case c4=>simp only[ByteArray.size];simp;omega
 intro v' w2 hown' hgrow hloc;have hlt1:b<w1.heap.size:=Nat.lt_of_lt_of_le hlt hm1.size;have hb2:w2.heap[b]?=ϑ (.cells (.pointer (ϑ ⟨b,0,ϕ⟩)::v::rest).toArray ty (0,0)):=by rw[hgrow.block b hlt1 (λe=>hne b e.symm rfl)];exact hbk
 have d0:w2.cell? ⟨b,0,ϕ⟩=ϑ (.pointer (ϑ ⟨b,0,ϕ⟩)):=Z43 hb2 0;have d1:w2.cell? ⟨b,1,ϕ⟩=ϑ v:=Z43 hb2 1;have f1:w2.frozen? ⟨b,1,ϕ⟩=δ:=Lib.frozen_of_heap hb2 1;have hnl:((rows++s.map λb=>[Value.int .u8 (b.toNat)]).length)=rows.length+s.length:=O1;have hfl2:(rows++s.map λb=>[Value.int .u8 (b.toNat)]).flatten=rows.flatten++Lib.strCells ⟨s.toArray⟩:=by rw[ϫ,Zxb]
 have hsz:(⟨s.toArray⟩:ByteArray).size=s.length:=by simp[ByteArray.size]
 obtain⟨ao,n',cap,rfl⟩:∃ao n' cap,v'=.slice ao n' cap:=by
  rcases hown'.2 with⟨hv,_⟩|⟨g,cap,cur,hv,_⟩
  ·exact⟨_,_,_,hv⟩
  exact⟨_,_,_,hv⟩
 have hvb:∀k,(Value.slice ao n' cap).ownBlock=ϑ k->k≠b:=λk hk e=>by
  subst e;rcases hloc k hk with h|h
  ·exact hne k h rfl
  omega
 go_wp2
 go_ret2
 have hs3:(w2.setCell ⟨b,1,ϕ⟩ (.slice ao n' cap)).heap[b]?=ϑ (.cells (.pointer (ϑ ⟨b,0,ϕ⟩)::.slice ao n' cap::rest).toArray ty (0,0)):=by have hlt2:b<w2.heap.size:=(Ϡ.1 hb2).1;have e:=(Ϡ.1 hb2).2;simp[World.setCell,ϱ,hb2]
 refine⟨rfl,.slice ao n' cap,hs3,?_,by refine((hm1.mono (fp':=b::v.ownBlock.toList) O1).trans (fp':=b::v.ownBlock.toList) (Mod.of_grown hgrow (λk hk=>.inl (by simp[hk]))) (λk hk=>.inl hk)).trans (fp':=[b]) (Mod.setCell _ _ _ (.inl O1)) O1,?_⟩
 ·refine owns.stable ⟨λr hr=>?_,by rw[hnl,hfl2,<- hsz];exact hown'⟩ λk hk=>(Mod.setCell (fp:=[b]) w2 ⟨b,1,ϕ⟩ (.slice ao n' cap) (.inl O1)).block k (hown'.lt k hk).2 (by simpa using hvb k hk)
  ·rcases qy13.1 hr with h|h
   ·exact hown.1 r h
   exact Z14d s r h
 intro k hk;rcases hloc k hk with h|h
 ·exact .inr (by simp[h])
 exact .inl (θ hm1.size h)
def Z1eu(b:Nat)(p v:ϔ)(rest:List ϔ)(rows:List (List ϔ))(w:Ϫ)(hb:w.heap[b]?=ϑ (.cells (p::v::rest).toArray ty (0,0)))(hown:owns w v 5 [.int .u8] rows): β ϓ 152 #[.pointer (ϑ ⟨b,0,ϕ⟩)] w λe w'=>e=.returned (.int .i64 rows.length)/\w'=w:=by
 obtain⟨ao,cap,rfl⟩:∃ao cap,v=.slice ao rows.length cap:=by
  rcases hown.2.2 with⟨hv,h0⟩|⟨g,cap,cur,hv,_⟩
  ·exact⟨ϕ,0,by rw[hv,h0]⟩
  exact⟨_,_,hv⟩
 have c1:=Z43 hb 1;go_enter Tryz.func152,Tryz.ntmps152;go_wp2
 go_ret
 exact⟨rfl,rfl⟩
def Z106(fp:List Nat)(w:Ϫ)(g n:Nat)(h:g∈fp):Mod fp w (w.freeze ⟨g,0,ϕ⟩ n):=by
 unfold World.freeze;split
 ·exact Mod.refl _ _
 refine⟨rfl,rfl,rfl,O1,λk hk hn=>?_⟩;have:k≠g:=λe=>hn (e▸h);simp[ϱ,Ne.symm this]
def Z14e:Tryz.prog.follows .mixedOrders=Ϟ:=O2
def Z14f(s:By):(s.map λb=>[Value.int .u8 (b.toNat:Int)]).flatten=Lib.byteCells s:=by rw[Zxb];simp[Lib.strCells,Lib.byteCells]
def Zp4:Tryz.prog.cellsOf 5=1:=O2
def Z107(b:Nat)(p v:ϔ)(rest:List ϔ)(l:By)(w:Ϫ)(hb:w.heap[b]?=ϑ (.cells (p::v::rest).toArray ty (0,0)))(hown0:owns w v 5 [.int .u8] (l.map λb=>[Value.int .u8 (b.toNat:Int)])): β ϓ 153 #[.pointer (ϑ ⟨b,0,ϕ⟩)] w λe w'=>e=.returned (.string ⟨l.toArray⟩)/\Mod v.ownBlock.toList w w':=by
 have hown:=hown0.2;rw[Z14f,qy3]at hown;have mixed:=Z14e;have hlt:=(Ϡ.1 hb).1;have hUS:∀W q,(Builtin.unsafeString_ #[245,3] 9 #[.pointer q,.int .i64 0]).run ϓ W=.ok (.string .empty) W:=λW q=>Lib.run_unsafeString_none W _ _ _ q;rcases hown.2 with⟨rfl,hl0⟩|⟨g,cap,cur,rfl,hbg,hg,hnc,hcm,hcs,htake⟩
 ·have hl:=ϸ hl0;subst hl;have c1:=Z43 hb 1;have hSD:(Builtin.unsafeSliceData_ #[207] 245 #[.slice ϕ 0 0]).run ϓ w.drew=.ok (.pointer ϕ) w.drew:=rfl;go_enter Tryz.func153,Tryz.ntmps153;go_wp2
  go_region_o
  all_goals (go_wp2;go_ret;exact⟨rfl,Mod.drew _ w⟩)
 by_cases hl0:l=[]
 ·subst hl0;by_cases hc0:cap=0
  ·subst hc0;have c1:=Z43 hb 1;have hSD:(Builtin.unsafeSliceData_ #[207] 245 #[.slice (ϑ ⟨g,0,ϕ⟩) 0 0]).run ϓ w.drew=.ok (.pointer (ϑ ⟨w.drew.heap.size,0,ϕ⟩)) (w.drew.alloc (.view ⟨g,0,ϕ⟩ 5)) :=
    Lib.run_unsafeSliceData_zero w.drew _ _ 5 Tryz.underlying245 ⟨g,0,ϕ⟩ 0 (5,cur.size) (by have hg':w.drew.heap[g]?=ϑ (.cells cur 5 (0,0)):=hg;simp[World.shape?,hg'])
   have c2:(w.drew.alloc (.view ⟨g,0,ϕ⟩ 5)).cell? ⟨b,1,ϕ⟩=ϑ (.slice (ϑ ⟨g,0,ϕ⟩) 0 0):=by have:(w.drew.alloc (.view ⟨g,0,ϕ⟩ 5)).heap[b]?=_:=(Lib.alloc_old w.drew _ b hlt).trans hb;exact Z43 this 1
   have c3:(w.alloc (.view ⟨g,0,ϕ⟩ 5)).drew.cell? ⟨b,1,ϕ⟩=ϑ (.slice (ϑ ⟨g,0,ϕ⟩) 0 0):=c2;have c0:w.cell? ⟨b,1,ϕ⟩=ϑ (.slice (ϑ ⟨g,0,ϕ⟩) 0 0):=c1;go_enter Tryz.func153,Tryz.ntmps153;go_wp2
   go_region_o
   all_goals (go_wp2;go_ret;exact⟨rfl,(Mod.drew _ w).trans (Mod.alloc _ _ _) (λk hk=>.inl hk)⟩)
  have c1:w.drew.cell? ⟨b,1,ϕ⟩=ϑ (.slice (ϑ ⟨g,0,ϕ⟩) 0 cap):=Z43 hb 1;have hSD:(Builtin.unsafeSliceData_ #[207] 245 #[.slice (ϑ ⟨g,0,ϕ⟩) 0 cap]).run ϓ w.drew=.ok (.pointer (ϑ ⟨g,0,ϕ⟩)) w.drew :=
   Lib.run_unsafeSliceData_row _ _ _ _ _ _ hc0
  go_enter Tryz.func153,Tryz.ntmps153
  go_wp2
  go_region_o
  all_goals (go_wp2;go_ret;exact⟨rfl,Mod.drew _ w⟩)
 have hl1:l.length≠0:=by simpa using hl0
 have c1:w.drew.cell? ⟨b,1,ϕ⟩=ϑ (.slice (ϑ ⟨g,0,ϕ⟩) l.length cap):=Z43 hb 1;have hSD:(Builtin.unsafeSliceData_ #[207] 245 #[.slice (ϑ ⟨g,0,ϕ⟩) l.length cap]).run ϓ w.drew=.ok (.pointer (ϑ ⟨g,0,ϕ⟩)) w.drew :=
  Lib.run_unsafeSliceData_row _ _ _ _ _ _ O
 have hUS':(Builtin.unsafeString_ #[245,3] 9 #[.pointer (ϑ ⟨g,0,ϕ⟩),.int .i64 l.length]).run ϓ w.drew=.ok (.string ⟨l.toArray⟩) (w.drew.freeze ⟨g,0,ϕ⟩ l.length):=by refine Lib.run_unsafeString_row w.drew 245 3 9 5 Tryz.underlying245 Zp4 g cur.size (by have hg':w.drew.heap[g]?=ϑ (.cells cur 5 (0,0)):=hg;simp[World.shape?,hg']) l hl0 (by simp at hcs;omega) (by unfold maxLen at hcm;omega) ?_;intro j x hx;have:=hown.cells (g:=g) rfl j (.int .u8 x.toNat) (by simp[Lib.byteCells,hx]);exact this
 go_enter Tryz.func153,Tryz.ntmps153
 go_wp2
 go_region_o
 all_goals (go_wp2;go_ret;exact⟨rfl,(Mod.drew _ w).trans (Z106 _ _ g _ (by simp[Value.ownBlock])) (λk hk=>.inl hk)⟩)
end Go.Proofs.Y
namespace Go.Proofs.Y
open Go.Sx
def Z108:Z1et 211 2=Ϟ:=O2
def byW(l:By):List (List ϔ):=l.map λb=>[Value.int .u8 (b.toNat:Int)]
def Z1ev(a b:By):byW (a++b)=byW a++byW b:=Ϙ
def okp(p:ϔ)(b:Nat):Prop:=p=.pointer ϕ\/p=.pointer (ϑ ⟨b,0,ϕ⟩)
def okp.sc1{p:ϔ}{b:Nat}(h:okp p b):sc1 p=p:=by rcases h with rfl|rfl<;>rfl
structure wrS(w:Ϫ)(b:Nat)(p q:ϔ)(l:List UInt8):Prop where
 cells:w.heap[b]?=ϑ (.cells [Sx.sc1 p,Sx.sc1 q].toArray 211 (0,0))
 ok:okp p b
 own:owns w q 5 [.int .u8] (byW l)
variable{q:ϔ}
def wrS.ne{w:Ϫ}{b:Nat}{p:ϔ}{l:By}(h:wrS w b p q l){k:Nat}(hk:Z1 q k):k≠b:=λe=>by
 subst e;have hk:q.ownBlock=ϑ k:=hk;rcases h.own.2.2 with⟨hv,-⟩|⟨g,cap,cur,hv,-,hg,-⟩
 ·rw[hv]at hk;cases hk
 rw[hv]at hk;simp[Value.ownBlock]at hk;subst hk;have hb:=h.cells;rw[hb]at hg;simp at hg
def fpW(b:Nat)(q:ϔ):List Nat:=[b]++(q.ownBlock.toList++[])
def Zp5(w w':Ϫ)(b:Nat)(q:ϔ)(l:By):Prop :=
 ∃p' q',wrS w' b p' q' l/\Mod (fpW b q) w w'/\∀k,Z1 q' k->w.heap.size<=k\/k∈q.ownBlock.toList++[]
def Z1ew(w:Ϫ)(b:Nat)(p q:ϔ)(l s:By)(h:wrS w b p q l)(hl:l.length+s.length<=140737488355328): β ϓ 194 #[.pointer (ϑ ⟨b,0,ϕ⟩),.string ⟨s.toArray⟩] w λe w'=>e=.returned (.tuple #[.int .i64 s.length,.nilIface])/\Zp5 w w' b q (l++s):=by have hq:=h.own.reads.sc1;have hc:=h.cells;rw[h.ok.sc1,hq]at hc;refine(Zk2 211 b p q [] _ s w Z108 U hc h.ok h.own (by simp only[byW,qy3];omega)).mono ?_;rintro e w' ⟨rfl,v',c1,c2,c3,c4⟩;have hv:=c2.reads.sc1;refine⟨rfl,.pointer (ϑ ⟨b,0,ϕ⟩),v',⟨by rw[hv];exact c1,.inr rfl,by rw[Z1ev];exact c2⟩,c3.mono λz hz=>.inl ?_,λk hk=>(c4 k hk).imp id λh=>by simpa using h⟩;simpa[fpW]using hz
def Z1ex{w:Ϫ}{b:Nat}{p:ϔ}{l:By}{J:List V}{vb vq vp:Nat}{rds:List Ent}{r:X}(h:wrS w b p q l)(hb:(J.getD vb (.i 0)).toN=b)(hq:(J.getD vq (.i 0)).toV=q)(hp:(J.getD vp (.i 0)).toV=p)(hr:(r.ev J).toR=byW l)(hd:∀e∈rds,e.holds J w/\e.wr=δ/\∀k,e.fp J k->k≠b/\¬Z1 q k): Rel ⟨fpW b q,w⟩ J (.row vq 5 [.int .u8] r::.cells vb 211 [.val (.var vp),.val (.var vq)]::rds) w:=by refine⟨Mod.refl _ _,qy2.2 ⟨by simp only[Ent.holds];rw[hq,hr];exact h.own,qy2.2 ⟨by simp only[Ent.holds,Ϥ,Ϧ,Sc.ev,X.ev];rw[hb,hq,hp];exact h.cells,λe he=>(hd e he).1⟩⟩,qy2.2 ⟨λ_ k hk=>.inr (by have hk:Z1 (J.getD vq (.i 0)).toV k:=hk;rw[hq]at hk;have hk:q.ownBlock=ϑ k:=hk;simp[fpW,hk]),qy2.2 ⟨λ_ k hk=>.inr (by have hk:k=(J.getD vb (.i 0)).toN:=hk;rw[hb]at hk;simp[fpW,hk]),λe he hw=>by rw[(hd e he).2.1]at hw;cases hw⟩⟩,Ϛ.2 ⟨?_,Ϛ.2 ⟨by intro e he _ k h1 h2;have h1:k=(J.getD vb (.i 0)).toN:=h1;rw[hb]at h1;exact((hd e he).2.2 k h2).1 h1,Z50 λe he=>(hd e he).2.1⟩⟩⟩;exact qy2.2 ⟨λ_ k h1 h2=>by have h1:Z1 (J.getD vq (.i 0)).toV k:=h1;have h2:k=(J.getD vb (.i 0)).toN:=h2;rw[hq]at h1;rw[hb]at h2;exact h.ne h1 h2,λe he _ k h1 h2=>by have h1:Z1 (J.getD vq (.i 0)).toV k:=h1;rw[hq]at h1;exact((hd e he).2.2 k h2).2 h1⟩
def Zp6{w w':Ϫ}{b:Nat}{l:By}{J:List V}{hp:List Ent}(hr:Rel ⟨fpW b q,w⟩ J hp w'){p' q':ϔ}(h:wrS w' b p' q' l){vq ty:Nat}{ks:List Kd}{r:X}(hm:Ent.row vq ty ks r∈hp)(hq:(J.getD vq (.i 0)).toV=q'):Zp5 w w' b q l:=by
 refine⟨p',q',h,hr.mod,λk hk=>?_⟩;rcases hr.own _ hm rfl k (by show Z1 (J.getD vq (.i 0)).toV k;rw[hq];exact hk)with h1|h1
 ·exact .inl h1
 rcases ϥ.1 h1 with h2|h2
 ·exact ϟ h2 (h.ne hk)
 exact .inr h2
def Zk3(w:Ϫ)(b:Nat)(p q:ϔ)(l t:By)(h:wrS w b p q l)(hl:l.length+t.length<=100000000000000): β ϓ 191 #[.pointer (ϑ ⟨b,0,ϕ⟩),.string ⟨t.toArray⟩] w λe w'=>e=.returned (.tuple #[])/\Zp5 w w' b q (l++txtB t):=by refine Wu (J:=[.n b,.v p,.v q,.r (byW l),.s t]) Z99 (Z1ex h rfl rfl rfl rfl O1) ?_;simp only[QR];refine⟨[.s (txtB t)],rfl,λ_ w' _=>Zud w' t O,?_⟩;simp only[QR];intro w1 hr;refine(Z1ew w1 b p q l (txtB t) ⟨hr.at_ 1 rfl,h.ok,hr.at_ 0 rfl⟩ (by rw[Z12];omega)).mono ?_;rintro e w2 ⟨rfl,p1,q1,s1,m1,f1⟩;refine⟨[.i _,.v .nilIface,.a Asrt.tt,.v p1,.v q1,.r (byW _)],rfl,rfl,m1,qy2.2 ⟨s1.cells,qy5 _⟩,qy2.2 ⟨⟨by simp only[Ent.holds,QQ,ϩ];trivial,λz hz=>by simp only[Ent.fp,QQ,ϩ]at hz;exact hz.elim⟩,qy2.2 ⟨⟨s1.own,λz hz=>(f1 z hz).imp id .inr⟩,qy5 _⟩⟩,Zo7 rfl Z2,?_⟩;(try simp only[QR,ra]);exact λw' hr=>⟨O6,Zp6 hr ⟨hr.at_ 2 rfl,s1.ok,hr.at_ 1 rfl⟩ (qy10 _ (qy8 ..)) rfl⟩
def Zry(k:Nat)(ns:List Int)(i:Nat)(h:i<ns.length):((ns.take (i+1)).map (numB k)).flatten=((ns.take i).map (numB k)).flatten++numB k (ns.getD i 0):=by rw[μ,qy1,qy7 h];simp only[ζ,π,Ϙ,Ϥ,Ϧ,ϫ,Ϯ,ϲ,Ϣ]
def Zk4(k:Nat)(ns:List Int):((ns.map (numB k)).flatten).length=ns.length*k:=by
 induction ns with
 | nil=>simp
 | cons n ns ih=>simp[ih,Zc,Nat.succ_mul];omega
def Zgv(w:Ϫ)(b:Nat)(p q:ϔ)(l:By)(k:Nat)(lv:ϔ)(ns:List Int)(h:wrS w b p q l)(hk:k<=2)(hv:Z3p w lv ns)(ha:∀k,(ns.map Zg).flatten≠[]/\Z1 lv k->k≠b/\¬Z1 q k)(hn:∀n∈ns,0<=n/\n<=65535)(hl:l.length<=10000000000000)(hl2:ns.length<=1000000000): β ϓ 192 #[.pointer (ϑ ⟨b,0,ϕ⟩),.int .i64 k,sc1 lv] w λe w'=>e=.returned (.tuple #[])/\Zp5 w w' b q (l++(ns.map (numB k)).flatten):=by
 refine Wu (J:=[.n b,.v p,.v q,.r (byW l),.i k,.v lv,.r (ns.map Zg)]) Zao (Z1ex h rfl rfl rfl rfl (qy2.2 ⟨⟨hv,rfl,ha⟩,qy5 _⟩)) ?_;simp only[QR];refine⟨λvs=>∃(i:Nat) (p' q':ϔ),vs=[.i i,.v p',.v q',.r (byW (l++((ns.take i).map (numB k)).flatten))]/\i<=ns.length/\okp p' b,λvs=>ns.length - (vs.getD 0 (.i 0)).toI.toNat,⟨0,p,q,O1,O,h.ok⟩,?_⟩;rintro _ - ⟨i,p',q',rfl,hi,hp'⟩;simp only[QR,gI0];refine⟨λh1=>⟨O,?_⟩,λh1 w' hr=>?_⟩
 ·have hni:0<=ns.getD i 0/\ns.getD i 0<=65535:=by
   rw[qy1,qy7 O];exact hn _ (ϳ _)
  refine⟨[.s (numB k (ns.getD i 0))],rfl,λ_ w' _=>Zox w' _ k O hni.1 O,?_⟩;simp only[QR,ra];intro w1 hr;have hlen:(l++((ns.take i).map (numB k)).flatten).length<=10000000000000+1000000000*2:=by rw[qy11,Zk4];have h1:(ns.take i).length<=1000000000:=O3;have:=Nat.mul_le_mul h1 hk;omega
  refine(Z1ew w1 b p' q' _ (numB k (ns.getD i 0)) ⟨hr.at_ 1 rfl,hp',hr.at_ 0 rfl⟩ (by rw[Zc];omega)).mono ?_;rintro e w2 ⟨rfl,p1,q1,s1,m1,f1⟩;refine⟨[.i _,.v .nilIface,.a Asrt.tt,.v p1,.v q1,.r (byW _)],rfl,rfl,m1,qy2.2 ⟨s1.cells,qy5 _⟩,qy2.2 ⟨⟨by simp only[Ent.holds,QQ,ϩ];trivial,λz hz=>by simp only[Ent.fp,QQ,ϩ]at hz;exact hz.elim⟩,qy2.2 ⟨⟨s1.own,λz hz=>(f1 z hz).imp id .inr⟩,qy5 _⟩⟩,Zo7 rfl Z2,?_⟩;(try simp only[QR,ra]);refine⟨O,O,⟨i+1,p1,q1,?_,O,s1.ok⟩,O⟩;rw[Zry k ns i O,ϯ];rfl
 have:i=ns.length:=O;subst this;rw[υ]at hr;exact⟨O6,Zp6 hr ⟨hr.at_ 1 rfl,hp',hr.at_ 0 rfl⟩ (qy8 ..) rfl⟩
structure ByteP(p:Pkt):Prop where
 kind:0<=p.kind/\p.kind<=15
 qos:0<=p.qos/\p.qos<=3
 id:0<=p.id/\p.id<=65535
 keep:0<=p.keep/\p.keep<=65535
 code:0<=p.code/\p.code<=65535
 asks:∀a∈p.asks,0<=a.2/\a.2<=65535
 codes:∀c∈p.codes,0<=c/\c<=65535
 small:SmallP p
 body:(Z20 p).length<268435456
def ByteP.ask{p:Pkt}(h:ByteP p)(i:Nat):0<=(p.asks.getD i yD).2/\(p.asks.getD i yD).2<=65535:=by
 by_cases hi:i<p.asks.length
 ·rw[qy1,qy7 hi];exact h.asks _ (ϳ hi)
 rw[qy1,List.getElem?_eq_none O];decide
def Z14g{p:Pkt}(h:SmallP p):(Z56 p).length<=2000000000:=by
 have h1:=h.client;have h2:=h.topic;unfold Z56;split
 ·simp only[qy11,Z12,Zc,ϗ,ϖ];omega
 split
 ·simp only[qy11,Zc];omega
 split
 ·rw[Z12];omega
 simp
def idP(p:Pkt):By:=if idB p=Ϟ then numB 2 p.id else[]
def Z1ey(p:Pkt):(idP p).length<=2:=by unfold idP;split<;>simp[Zc]
def asB(p:Pkt)(i:Nat):By:=Z56 p++idP p++p.payload++((p.asks.take i).map (Z21 p.kind)).flatten
def Z1ez{p:Pkt}(h:ByteP p)(i:Nat):(asB p i).length<268435456:=by
 refine Nat.lt_of_le_of_lt ?_ h.body;unfold Z20 asB idP;have:((p.asks.take i).map (Z21 p.kind)).flatten.length<=(p.asks.map (Z21 p.kind)).flatten.length:=by
  conv=>rhs;rw[<- List.take_append_drop i p.asks,Ϙ,ϫ,qy11]
  omega
 simp only[qy11];omega
def Z19r(p:Pkt):asB p 0=Z56 p++idP p++p.payload:=by simp[asB]
def Zxc(p:Pkt)(i:Nat)(h:i<p.asks.length):asB p (i+1)=asB p i++Z21 p.kind (p.asks.getD i yD):=by unfold asB;rw[μ,qy1,qy7 h];simp only[ζ,π,Ϙ,Ϥ,Ϧ,ϫ,Ϯ,ϲ,Ϣ,ϯ]
def Z1f0(p:Pkt):asB p p.asks.length++(p.codes.map (numB 1)).flatten=Z20 p:=by rw[asB,υ];rfl
section
variable (w:Ϫ) (b:Nat) (p:Pkt) (u v:ϔ)
def Z1f1(p0 q0:ϔ)(hu:Z4h w u p.asks)(hv:Z3p w v p.codes)(hB:ByteP p)(hw:wrS w b p0 q0 [])(hua:∀k,(p.asks.map encA).flatten≠[]/\Z1 u k->k≠b/\¬Z1 q0 k)(hva:∀k,(p.codes.map Zg).flatten≠[]/\Z1 v k->k≠b/\¬Z1 q0 k): β ϓ 148 #[.pointer (ϑ ⟨b,0,ϕ⟩),pV p u v] w λe w'=>e=.returned (.tuple #[])/\Zp5 w w' b q0 (Z20 p):=by
 refine Wu (J:=[.n b,.v p0,.v q0,.r (byW []),.i p.kind,.b p.dup,.b p.retain,.b p.clean,.b p.session,.i p.qos,.i p.id,.i p.keep,.i p.code,.s p.client,.s p.topic,.s p.payload,.v u,.r (p.asks.map encA),.v v,.r (p.codes.map Zg)]) Z9e (Z1ex hw rfl rfl rfl rfl (qy2.2 ⟨⟨hu,rfl,hua⟩,qy2.2 ⟨⟨hv,rfl,hva⟩,qy5 _⟩⟩)) ?_;have hs:=hB.small;have hcl:=hs.client;have htp:=hs.topic;have hpl:=hs.payload;have hna:=hs.asks;have hnc:=hs.codes;have hhl:=Z14g hs;have hil:=Z1ey p;simp only[QR,ra];intro bc;refine⟨λvs=>∃p' q',vs=[.v p',.v q',.r (byW (Z56 p))]/\okp p' b,⟨λh1=>?_,λh1=>⟨λh2=>?_,λh2=>⟨λh3=>?_,λh3=>?_⟩⟩⟩,?_⟩
 ·intro w1 hr;refine(Zk3 w1 b p0 q0 [] [77,81,84,84] ⟨hr.at_ 2 rfl,hw.ok,hr.at_ 1 rfl⟩ U).mono ?_;rintro e w2 ⟨rfl,p1,q1,s1,m1,f1⟩;refine⟨[.v p1,.v q1,.r (byW _)],rfl,rfl,m1,qy2.2 ⟨s1.cells,qy5 _⟩,qy2.2 ⟨⟨s1.own,λz hz=>(f1 z hz).imp id .inr⟩,qy5 _⟩,Z2,?_⟩;(try simp only[QR,ra]);have go:∀n:Int,n=bit p.clean 2->Z56 p=[]++txtB [77,81,84,84]++(([4,n]:List Int).map (numB 1)).flatten++(([p.keep]:List Int).map (numB 2)).flatten++txtB p.client:=λn hn=>by
   rw[Z56,ϝ h1,hn];simp
  refine⟨λhc=>?_,λhc=>?_⟩
  ·intro v1 w3 hr;have hn4:∀n∈([4,2]:List Int),0<=n/\n<=65535:=U;refine(Zgv w3 b p1 q1 _ 1 v1 [4,2] ⟨hr.at_ 3 rfl,s1.ok,hr.at_ 1 rfl⟩ O (owns.reads (hr.at_ 0 rfl)) (λk hk=>⟨λe=>Zt.disj hr.sep (i:=0) (j:=3) rfl rfl U (.inl rfl) hk.2 e,λhb=>Zt.disj hr.sep (i:=0) (j:=1) rfl rfl U (.inl rfl) (k:=k) hk.2 hb⟩) hn4 U U).mono ?_;have o1:=s1.ok;clear s1 m1 f1;rintro e w4 ⟨rfl,p1,q1,s1,m1,f1⟩;refine⟨[.v p1,.v q1,.r (byW _)],rfl,rfl,m1,qy2.2 ⟨s1.cells,qy5 _⟩,qy2.2 ⟨⟨s1.own,λz hz=>(f1 z hz).imp id .inr⟩,qy5 _⟩,Z2,?_⟩;(try simp only[QR,ra]);intro v2 w5 hr;refine(Zgv w5 b p1 q1 _ 2 v2 [p.keep] ⟨hr.at_ 4 rfl,s1.ok,hr.at_ 1 rfl⟩ O (owns.reads (hr.at_ 0 rfl)) (λk hk=>⟨λe=>Zt.disj hr.sep (i:=0) (j:=4) rfl rfl U (.inl rfl) (k:=k) hk.2 e,λhb=>Zt.disj hr.sep (i:=0) (j:=1) rfl rfl U (.inl rfl) (k:=k) hk.2 hb⟩) (by simpa using hB.keep) U O1).mono ?_;have o2:=s1.ok;clear s1 m1 f1;rintro e w6 ⟨rfl,p1,q1,s1,m1,f1⟩;refine⟨[.v p1,.v q1,.r (byW _)],rfl,rfl,m1,qy2.2 ⟨s1.cells,qy5 _⟩,qy2.2 ⟨⟨s1.own,λz hz=>(f1 z hz).imp id .inr⟩,qy5 _⟩,Z2,?_⟩;(try simp only[QR,ra]);intro w7 hr;refine(Zk3 w7 b p1 q1 _ p.client ⟨hr.at_ 4 rfl,s1.ok,hr.at_ 0 rfl⟩ (by simp only[qy11,Z12,Ϥ,Ϧ,Ϯ,ϲ,Zc,ϖ,ϗ];omega)).mono ?_;clear s1 m1 f1;rintro e w8 ⟨rfl,p1,q1,s1,m1,f1⟩;refine⟨[.v p1,.v q1,.r (byW _)],rfl,rfl,m1,qy2.2 ⟨s1.cells,qy5 _⟩,qy2.2 ⟨⟨s1.own,λz hz=>(f1 z hz).imp id .inr⟩,qy5 _⟩,Z2,?_⟩;(try simp only[QR,ra]);exact⟨p1,q1,by rw[go 2 (by simp[bit,hc])];rfl,s1.ok⟩
  intro v1 w3 hr;have hn4:∀n∈([4,0]:List Int),0<=n/\n<=65535:=U;refine(Zgv w3 b p1 q1 _ 1 v1 [4,0] ⟨hr.at_ 3 rfl,s1.ok,hr.at_ 1 rfl⟩ O (owns.reads (hr.at_ 0 rfl)) (λk hk=>⟨λe=>Zt.disj hr.sep (i:=0) (j:=3) rfl rfl U (.inl rfl) (k:=k) hk.2 e,λhb=>Zt.disj hr.sep (i:=0) (j:=1) rfl rfl U (.inl rfl) (k:=k) hk.2 hb⟩) hn4 U U).mono ?_;clear s1 m1 f1;rintro e w4 ⟨rfl,p1,q1,s1,m1,f1⟩;refine⟨[.v p1,.v q1,.r (byW _)],rfl,rfl,m1,qy2.2 ⟨s1.cells,qy5 _⟩,qy2.2 ⟨⟨s1.own,λz hz=>(f1 z hz).imp id .inr⟩,qy5 _⟩,Z2,?_⟩;(try simp only[QR,ra]);intro v2 w5 hr;refine(Zgv w5 b p1 q1 _ 2 v2 [p.keep] ⟨hr.at_ 4 rfl,s1.ok,hr.at_ 1 rfl⟩ O (owns.reads (hr.at_ 0 rfl)) (λk hk=>⟨λe=>Zt.disj hr.sep (i:=0) (j:=4) rfl rfl U (.inl rfl) (k:=k) hk.2 e,λhb=>Zt.disj hr.sep (i:=0) (j:=1) rfl rfl U (.inl rfl) (k:=k) hk.2 hb⟩) (by simpa using hB.keep) U O1).mono ?_;clear s1 m1 f1;rintro e w6 ⟨rfl,p1,q1,s1,m1,f1⟩;refine⟨[.v p1,.v q1,.r (byW _)],rfl,rfl,m1,qy2.2 ⟨s1.cells,qy5 _⟩,qy2.2 ⟨⟨s1.own,λz hz=>(f1 z hz).imp id .inr⟩,qy5 _⟩,Z2,?_⟩;(try simp only[QR,ra]);intro w7 hr;refine(Zk3 w7 b p1 q1 _ p.client ⟨hr.at_ 4 rfl,s1.ok,hr.at_ 0 rfl⟩ (by simp only[qy11,Z12,Ϥ,Ϧ,Ϯ,ϲ,Zc,ϖ,ϗ];omega)).mono ?_;clear s1 m1 f1;rintro e w8 ⟨rfl,p1,q1,s1,m1,f1⟩;refine⟨[.v p1,.v q1,.r (byW _)],rfl,rfl,m1,qy2.2 ⟨s1.cells,qy5 _⟩,qy2.2 ⟨⟨s1.own,λz hz=>(f1 z hz).imp id .inr⟩,qy5 _⟩,Z2,?_⟩;(try simp only[QR,ra]);exact⟨p1,q1,by rw[go 0 (by simp[bit,hc])];rfl,s1.ok⟩
 ·have go:∀n:Int,n=bit p.session 1->Z56 p=[]++(([n,p.code]:List Int).map (numB 1)).flatten:=λn hn=>by
   rw[Z56,ϛ h1,ϝ h2,hn];simp
  have one:∀n:Int,n=bit p.session 1->(0<=n/\n<=65535)->∀(v1:ϔ) (w3:Ϫ),Z3p w3 v1 [n,p.code]->wrS w3 b p0 q0 []->(∀k,(([n,p.code]:List Int).map Zg).flatten≠[]/\Z1 v1 k->k≠b/\¬Z1 q0 k) ->
    β ϓ 192 #[.pointer (ϑ ⟨b,0,ϕ⟩),.int .i64 1,sc1 v1] w3 λe w'=>e=.returned (.tuple #[])/\Zp5 w3 w' b q0 (Z56 p):=λn hn h0 v1 w3 hv1 hw3 ha=>by
   have h9:=hB.code;rw[go n hn];exact Zgv w3 b p0 q0 _ 1 v1 [n,p.code] hw3 O hv1 ha O3 U O1
  have c1:p.session=Ϟ->(1:Int)=bit p.session 1:=λh=>by simp[bit,h]
  have c0:¬p.session=Ϟ->(0:Int)=bit p.session 1:=λh=>by simp[bit,h]
  refine⟨⟨λhc=>?_,λhc=>?_⟩,⟨λhc=>?_,λhc=>?_⟩⟩;all_goals
   intro v1 w3 hr;first
   | refine(one 1 (c1 hc) U v1 w3 (owns.reads (hr.at_ 0 rfl)) ⟨hr.at_ 3 rfl,hw.ok,hr.at_ 2 rfl⟩ (λk hk=>⟨λe=>Zt.disj hr.sep (i:=0) (j:=3) rfl rfl U (.inl rfl) (k:=k) hk.2 e,λhb=>Zt.disj hr.sep (i:=0) (j:=2) rfl rfl U (.inl rfl) (k:=k) hk.2 hb⟩)).mono ?_
   | refine(one 0 (c0 hc) U v1 w3 (owns.reads (hr.at_ 0 rfl)) ⟨hr.at_ 3 rfl,hw.ok,hr.at_ 2 rfl⟩ (λk hk=>⟨λe=>Zt.disj hr.sep (i:=0) (j:=3) rfl rfl U (.inl rfl) (k:=k) hk.2 e,λhb=>Zt.disj hr.sep (i:=0) (j:=2) rfl rfl U (.inl rfl) (k:=k) hk.2 hb⟩)).mono ?_
   rintro e w4 ⟨rfl,p1,q1,s1,m1,f1⟩;refine⟨[.v p1,.v q1,.r (byW _)],rfl,rfl,m1,qy2.2 ⟨s1.cells,qy5 _⟩,qy2.2 ⟨⟨s1.own,λz hz=>(f1 z hz).imp id .inr⟩,qy5 _⟩,Z2,?_⟩;(try simp only[QR,ra]);exact⟨p1,q1,rfl,s1.ok⟩
 ·intro w1 hr;refine(Zk3 w1 b p0 q0 [] p.topic ⟨hr.at_ 2 rfl,hw.ok,hr.at_ 1 rfl⟩ (by simp only[ϖ];omega)).mono ?_;rintro e w2 ⟨rfl,p1,q1,s1,m1,f1⟩;refine⟨[.v p1,.v q1,.r (byW _)],rfl,rfl,m1,qy2.2 ⟨s1.cells,qy5 _⟩,qy2.2 ⟨⟨s1.own,λz hz=>(f1 z hz).imp id .inr⟩,qy5 _⟩,Z2,?_⟩;(try simp only[QR,ra]);exact⟨p1,q1,by rw[Z56,ϛ h1,ϛ h2,ϝ h3],s1.ok⟩
 ·exact⟨p0,q0,by rw[Z56,ϛ h1,ϛ h2,ϛ h3],hw.ok⟩
 rintro _ - ⟨p1,q1,rfl,o1⟩;simp only[QR,ra];refine⟨[.b (idB p)],rfl,λ_ w' hr=>Z19b w' p u v (hr.at_ 3 rfl) (hr.at_ 4 rfl),?_⟩;simp only[QR,ra];refine⟨λvs=>∃p' q',vs=[.v p',.v q',.r (byW (Z56 p++idP p))]/\okp p' b,⟨λh1=>?_,λh1=>?_⟩,?_⟩
 ·intro v1 w3 hr;refine(Zgv w3 b p1 q1 _ 2 v1 [p.id] ⟨hr.at_ 3 rfl,o1,hr.at_ 2 rfl⟩ O (owns.reads (hr.at_ 0 rfl)) (λk hk=>⟨λe=>Zt.disj hr.sep (i:=0) (j:=3) rfl rfl U (.inl rfl) (k:=k) hk.2 e,λhb=>Zt.disj hr.sep (i:=0) (j:=2) rfl rfl U (.inl rfl) (k:=k) hk.2 hb⟩) (by simpa using hB.id) O O1).mono ?_;rintro e w4 ⟨rfl,p1,q1,s1,m1,f1⟩;refine⟨[.v p1,.v q1,.r (byW _)],rfl,rfl,m1,qy2.2 ⟨s1.cells,qy5 _⟩,qy2.2 ⟨⟨s1.own,λz hz=>(f1 z hz).imp id .inr⟩,qy5 _⟩,Z2,?_⟩;(try simp only[QR,ra]);exact⟨p1,q1,by rw[idP,ϝ h1];simp,s1.ok⟩
 ·exact⟨p1,q1,by rw[idP,ϛ h1,Ϣ],o1⟩
 rintro _ - ⟨p2,q2,rfl,o2⟩;simp only[QR,ra];intro w1 hr;refine(Z1ew w1 b p2 q2 _ p.payload ⟨hr.at_ 2 rfl,o2,hr.at_ 1 rfl⟩ (by simp only[qy11];omega)).mono ?_;rintro e w2 ⟨rfl,p1,q1,s1,m1,f1⟩;refine⟨[.i _,.v .nilIface,.a Asrt.tt,.v p1,.v q1,.r (byW _)],rfl,rfl,m1,qy2.2 ⟨s1.cells,qy5 _⟩,qy2.2 ⟨⟨by simp only[Ent.holds,QQ,ϩ];trivial,λz hz=>by simp only[Ent.fp,QQ,ϩ]at hz;exact hz.elim⟩,qy2.2 ⟨⟨s1.own,λz hz=>(f1 z hz).imp id .inr⟩,qy5 _⟩⟩,Zo7 rfl Z2,?_⟩;(try simp only[QR,ra]);refine⟨λvs=>∃(i:Nat) (p' q':ϔ),vs=[.i i,.v p',.v q',.r (byW (asB p i))]/\i<=p.asks.length/\okp p' b,λvs=>p.asks.length - (vs.getD 0 (.i 0)).toI.toNat,⟨0,p1,q1,by rw[Z19r];rfl,O,s1.ok⟩,?_⟩;clear s1 m1 f1 hr;rintro _ - ⟨i,p3,q3,rfl,hi,o3⟩;simp only[QR,ra,gA0,gA1];have hal:=Z1ez hB i;refine⟨λh1=>⟨O,λbx w3 hr=>?_⟩,λh1 w3 hr=>?_⟩
 ·have hf:=hs.at_ i;have hq:=hB.ask i;refine(Zk3 w3 b p3 q3 _ (p.asks.getD i yD).1 ⟨hr.at_ 4 rfl,o3,hr.at_ 2 rfl⟩ O).mono ?_;rintro e w4 ⟨rfl,p1,q1,s1,m1,f1⟩;refine⟨[.v p1,.v q1,.r (byW _)],rfl,rfl,m1,qy2.2 ⟨s1.cells,qy5 _⟩,qy2.2 ⟨⟨s1.own,λz hz=>(f1 z hz).imp id .inr⟩,qy5 _⟩,Z2,?_⟩;(try simp only[QR,ra]);refine⟨λhk=>(by intro v1 w5 hr;have e0:=hr.at_ 0 rfl;simp only[Ent.holds,QQ,ϩ,qy4,gA1]at e0;refine(Zgv w5 b p1 q1 _ 1 v1 [(p.asks.getD i yD).2] ⟨hr.at_ 5 rfl,s1.ok,hr.at_ 1 rfl⟩ O (owns.reads e0) (λk hk=>⟨λe=>Zt.disj hr.sep (i:=0) (j:=5) rfl rfl U (.inl rfl) (k:=k) hk.2 e,λhb=>Zt.disj hr.sep (i:=0) (j:=1) rfl rfl U (.inl rfl) (k:=k) hk.2 hb⟩) (by simpa using hq) (by simp only[qy11,Z12];omega) O1).mono ?_;clear s1 m1 f1;rintro e w6 ⟨rfl,p1,q1,s1,m1,f1⟩;refine⟨[.v p1,.v q1,.r (byW _)],rfl,rfl,m1,qy2.2 ⟨s1.cells,qy5 _⟩,qy2.2 ⟨⟨s1.own,λz hz=>(f1 z hz).imp id .inr⟩,qy5 _⟩,Z2,?_⟩;(try simp only[QR,ra]);refine⟨O,O,⟨i+1,p1,q1,?_,O,s1.ok⟩,O⟩;rw[Zxc p i O,Z21,ϝ hk];simp),λhk=>by refine⟨O,O,⟨i+1,p1,q1,?_,O,s1.ok⟩,O⟩;rw[Zxc p i O,Z21,ϛ hk,Ϣ];rfl⟩
 have:i=p.asks.length:=O;subst this;refine(Zgv w3 b p3 q3 _ 1 v p.codes ⟨hr.at_ 3 rfl,o3,hr.at_ 1 rfl⟩ O (hr.at_ 5 rfl) (λk hk=>⟨λe=>Zt.disj hr.sep (i:=5) (j:=3) rfl rfl U (.inr rfl) (k:=k) hk e,λhb=>Zt.disj hr.sep (i:=5) (j:=1) rfl rfl U (.inr rfl) (k:=k) hk hb⟩) hB.codes O O).mono ?_;rintro e w4 ⟨rfl,p1,q1,s1,m1,f1⟩;refine⟨[.v p1,.v q1,.r (byW _)],rfl,rfl,m1,qy2.2 ⟨s1.cells,qy5 _⟩,qy2.2 ⟨⟨s1.own,λz hz=>(f1 z hz).imp id .inr⟩,qy5 _⟩,Z2,?_⟩;(try simp only[QR,ra]);intro w' hr;rw[Z1f0]at hr;exact⟨O6,Zp6 hr ⟨hr.at_ 3 rfl,s1.ok,hr.at_ 0 rfl⟩ (qy8 ..) rfl⟩
end
def pkOf(p:Pk):Pkt:={ pD_Q 3 with dup:=p.1,qos:=p.2.1,id:=p.2.2.1,topic:=p.2.2.2.1,payload:=p.2.2.2.2 }
structure Snt where
 client:List UInt8
 pk:Pkt
 peer:Int
 msg:Msg
abbrev toC(c:By)(p:Pkt):Snt:=⟨c,p,0,mNil⟩
abbrev toP(n:Int)(m:Msg):Snt:=⟨[],pD_Q 0,n,m⟩
structure Tel where
 kept:List Kp
 wants:List Kp
 sess:List Ses
 wat:List Wat
 next:Int
 out:List Snt
def idxS(l:List Ses)(c:By):Nat:=(l.filter λs=>Z5 s.cl c).length
def hasS(l:List Ses)(c:By):Bool:=decide (idxS l c<l.length/\(l.getD (idxS l c) s0).cl=c)
def Z77(l:List Ses):Prop:=l.Pairwise λa b=>Z5 a.cl b.cl=Ϟ
def nx_Z(n:Int):Int:=(n+1) % 65536
def Z1p(n p:By)(q:Int)(t:Tel)(r:Rd):Tel :=
 { t with sess:=t.sess.set (idxS t.sess r.1) (Z32 (t.sess.getD (idxS t.sess r.1) s0) n p (min q r.2)).1,out:=t.out++(Z32 (t.sess.getD (idxS t.sess r.1) s0) n p (min q r.2)).2.map λk=>toC r.1 (pkOf k) }
def putM(m:Msg)(n:Int):Msg:={ m with opts:=Z19i m.opts 6 [Z33 n] }
def Z4s(p:By)(t:Tel)(w:Wat):Tel:={ t with next:=nx_Z t.next,out:=t.out++[toP w.1 (putM ⟨1,69,t.next,w.2.1,[],p⟩ w.2.2.2)] }
def Z7m(n p:By)(q:Int)(t:Tel):Tel:=(rdOf n t.wants).foldl (Z1p n p q) t
def Z6n(n p:By)(q:Int)(t:Tel):Tel:=(Z3x n (Z7m n p q t).wat).foldl (Z4s p) { Z7m n p q t with wat:=Z3j n (Z7m n p q t).wat }
def Zaq(t:Tel)(w:Wat):Tel:={ t with next:=nx_Z t.next,out:=t.out++[toP w.1 ⟨1,132,t.next,w.2.1,[],[]⟩] }
def ofT(n:By)(w:Wat):Bool:=decide (w.2.2.1=n)
def Z13(n p:By)(t:Tel):Tel×Bool :=
 if ¬(rawK t.kept n p).2=0 then(t,δ)
 else if ¬p=[]then({ t with kept:=(rawK t.kept n p).1 },Ϟ)
 else({ (t.wat.filter (ofT n)).foldl Zaq { t with kept:=(rawK t.kept n p).1 }with wat:=t.wat.filter λw=>!ofT n w },Ϟ)
variable(c:By)
def Zmy(t:Tel):Tel:={ t with wants:=t.wants.filter λw=>decide (¬w.1=c) }
def Z4i(t:Tel):Tel :=
 if hasS t.sess c=Ϟ then
  if(goR (t.sess.getD (idxS t.sess c) s0)).clean=Ϟ then Zmy c { t with sess:=t.sess.take (idxS t.sess c)++t.sess.drop (idxS t.sess c+1) }
  else { t with sess:=t.sess.set (idxS t.sess c) (goR (t.sess.getD (idxS t.sess c) s0)) }
 else t
def insS(l:List Ses)(c:By):List Ses:=if hasS l c=Ϟ then l else l.take (idxS l c)++[⟨[],δ,Ϟ,[],[],0⟩]++l.drop (idxS l c)
def Zc2(l:List Ses)(c:By)(clean:Bool):Bool:=!((insS l c).getD (idxS l c) s0).clean && !clean
def Zb8(l:List Ses)(c:By)(clean:Bool):Ses:={ (if Zc2 l c clean=Ϟ then(insS l c).getD (idxS l c) s0 else⟨c,δ,δ,[],[],1⟩)with clean:=clean }
def Z1c(p:Pkt)(t:Tel):Tel :=
 if ¬p.client=c then t
 else if ¬hasS t.sess c=Ϟ/\t.sess.length=6 then { t with out:=t.out++[toC c { pD_Q 2 with code:=3 }] }
 else { t with
  wants:=if Zc2 t.sess c p.clean=Ϟ then t.wants else t.wants.filter λw=>decide (¬w.1=c)
  sess:=(insS t.sess c).set (idxS t.sess c) (Zcu (Zb8 t.sess c p.clean)).1
  out:=t.out++[toC c { pD_Q 2 with session:=Zc2 t.sess c p.clean }]++(Zcu (Zb8 t.sess c p.clean)).2.map λk=>toC c (pkOf k) }
def Z2t(p:Pkt)(t:Tel):Tel :=
 let t1:Tel:=if p.qos=1 then { t with out:=t.out++[toC c { pD_Q 4 with id:=p.id }] }else t
 Z6n p.topic p.payload p.qos (if p.retain=Ϟ then(Z13 p.topic p.payload t1).1 else t1)
def Z34(x:List Kp×List Int)(a:Rd):List Kp×List Int:=if(rawW x.1 (c,a.1,a.2)).2=0 then((rawW x.1 (c,a.1,a.2)).1,x.2++[a.2])else(x.1,x.2++[128])
def Zhl(ws:List Kp)(l:List Rd):List Kp×List Int:=l.foldl (Z34 c) (ws,[])
def Zln(kept:List Kp)(a:Rd)(q:Int):List Snt:=if q=128 then[]else(kept.filter (forF a.1)).map λk=>toC c { pD_Q 3 with retain:=Ϟ,topic:=k.1,payload:=k.2.1 }
def Z3y(c:By)(kept:List Kp):List Rd->List Int->List Snt
 | a::l,q::m=>Zln c kept a q++Z3y c kept l m
 | _,_=>[]
def Z2f(p:Pkt)(t:Tel):Tel :=
 { t with wants:=(Zhl c t.wants p.asks).1,out:=t.out++[toC c { pD_Q 9 with id:=p.id,codes:=(Zhl c t.wants p.asks).2 }]++Z3y c t.kept p.asks (Zhl c t.wants p.asks).2 }
def Z1g(p:Pkt)(t:Tel):Tel :=
 { t with wants:=t.wants.filter λw=>!(decide (w.1=c) && p.asks.any λa=>decide (a.1=w.2.1)),out:=t.out++[toC c { pD_Q 11 with id:=p.id }] }
def Zlo(p:Pkt)(t:Tel):Tel :=
 { t with sess:=t.sess.set (idxS t.sess c) (Z4l (t.sess.getD (idxS t.sess c) s0) p.id).1,out:=t.out++(Z4l (t.sess.getD (idxS t.sess c) s0) p.id).2.map λk=>toC c (pkOf k) }
def Zx(p:Pkt)(t:Tel):Tel :=
 if ¬p.kind=1/\(¬hasS t.sess c=Ϟ\/¬(t.sess.getD (idxS t.sess c) s0).on=Ϟ)then t
 else if p.kind=1 then Z1c c p t
 else if p.kind=3 then Z2t c p t
 else if p.kind=4 then Zlo c p t
 else if p.kind=8 then Z2f c p t
 else if p.kind=10 then Z1g c p t
 else if p.kind=12 then { t with out:=t.out++[toC c (pD_Q 13)] }
 else if p.kind=14 then Z4i c t
 else t
def getB(n:Int)(m a:Msg)(name:By)(t:Tel):Tel×Msg :=
 if ¬hasK t.kept name=Ϟ then(t,{ a with code:=132 })
 else
  let a1:Msg:={ a with code:=69,pay:=(t.kept.getD (idx t.kept name) kD).2.1 }
  if(Z3m 6 m.opts).2=0/\(Z3m 6 m.opts).1=0 then
   if(Z49 t.wat (n,m.tok,name,1)).2=0 then({ t with wat:=(Z49 t.wat (n,m.tok,name,1)).1 },putM a1 1)else(t,a1)
  else if(Z3m 6 m.opts).2=0/\(Z3m 6 m.opts).1=1 then({ t with wat:=filt n m.tok t.wat },a1)
  else(t,a1)
def Z2a(m:Msg)(next:Int):Msg:=if m.kind=1 then⟨1,133,next,m.tok,[],[]⟩else⟨2,133,m.id,m.tok,[],[]⟩
def doB(n:Int)(m a:Msg)(t:Tel):Tel×Msg :=
 if ¬(Z1f m.opts).2=0 then(t,{ a with code:=128 })
 else if m.code=1 then getB n m a (Z1f m.opts).1 t
 else if m.code=3 then
  if ¬m.pay=[]/\(Z13 (Z1f m.opts).1 m.pay t).2=Ϟ then(Z6n (Z1f m.opts).1 m.pay 1 (Z13 (Z1f m.opts).1 m.pay t).1,{ a with code:=68 })else(t,{ a with code:=128 })
 else if m.code=4 then((Z13 (Z1f m.opts).1 [] t).1,{ a with code:=66 })
 else(t,a)
def Z3n(n:Int)(m:Msg)(t:Tel):Tel :=
 let a:=Z2a m t.next
 let x:=doB n m a { t with next:=if m.kind=1 then nx_Z t.next else t.next,out:=t.out++[toP n a] }
 { x.1 with out:=x.1.out.set t.out.length (toP n x.2) }
def Zu(n:Int)(m:Msg)(t:Tel):Tel :=
 if m.code=0/\m.kind=0 then { t with out:=t.out++[toP n ⟨3,0,m.id,[],[],[]⟩] }
 else if ¬m.code=0/\m.kind<=1 then Z3n n m t
 else t
def Zg4:Option By->List Ses->Int
 | _,[]=>0
 | u,s::l=>if ¬chkS s=0 then chkS s else if(match u with|none=>Ϟ|some c=>Z5 c s.cl)=Ϟ then Zg4 (ϑ s.cl) l else 4
def Z78(l:List Ses):Int:=if 6<(l.length:Int)then 2 else Zg4 ϕ l
def Z1m(t:Tel):Bool:=t.wants.any (λw=>!hasS t.sess w.1) || t.wat.any (λw=>!hasK t.kept w.2.2.1)
def chkB(t:Tel):Int :=
 if ¬chkK t.kept=0 then chkK t.kept
 else if ¬Zl t.wants=0 then Zl t.wants
 else if ¬Z78 t.sess=0 then Z78 t.sess
 else if ¬Z1d t.wat=0 then Z1d t.wat
 else if Z1m t=Ϟ then 4
 else if t.next<0\/65535<t.next then 3 else 0
open Go
def rdsZ(l:List (ϔ×List Kd×List (List ϔ))):Asrt where
 holds w:=∀t∈l,reads w t.1 t.2.1 t.2.2
 fp k:=∃t∈l,t.2.2.flatten≠[]/\Z1 t.1 k
 stable:=λw w' h hh t ht=>(hh t ht).stable λk hk=>h k ⟨t,ht,hk⟩
 bound:=λw hh k ⟨t,ht,hk⟩=>Ent.bound (J:=[.v t.1,.r t.2.2]) (e:=.rd 0 t.2.1 (.var 1)) (hh t ht) hk
abbrev SesX:=Ses×ϔ×ϔ
abbrev sxD:SesX:=(s0,.slice ϕ 0 0,.slice ϕ 0 0)
def Ze(t:SesX):List ϔ:=[.string ⟨t.1.cl.toArray⟩,.bool t.1.on,.bool t.1.clean,sc1 t.2.1,sc1 t.2.2,.int .i64 t.1.next]
abbrev kSx:List Kd:=[.str,.bool,.bool,.oth,.oth,.int .i64]
def sesT(t:SesX):List (ϔ×List Kd×List (List ϔ)):=[(t.2.1,kF,t.1.fl.map encF),(t.2.2,kF,t.1.qu.map encF)]
abbrev SntX:=Snt×ϔ×ϔ×ϔ
def Zp(t:SntX):List ϔ:=[.string ⟨t.1.client.toArray⟩,
 .int .i64 t.1.pk.kind,.bool t.1.pk.dup,.bool t.1.pk.retain,.bool t.1.pk.clean,.bool t.1.pk.session,.int .i64 t.1.pk.qos,.int .i64 t.1.pk.id,.int .i64 t.1.pk.keep,.int .i64 t.1.pk.code,.string ⟨t.1.pk.client.toArray⟩,.string ⟨t.1.pk.topic.toArray⟩,.string ⟨t.1.pk.payload.toArray⟩,sc1 t.2.1,sc1 t.2.2.1,
 .int .i64 t.1.peer,.int .i64 t.1.msg.kind,.int .i64 t.1.msg.code,.int .i64 t.1.msg.id,.string ⟨t.1.msg.tok.toArray⟩,sc1 t.2.2.2,.string ⟨t.1.msg.pay.toArray⟩]
abbrev kSn:List Kd:=[.str,.int .i64,.bool,.bool,.bool,.bool,.int .i64,.int .i64,.int .i64,.int .i64,.str,.str,.str,.oth,.oth,.int .i64,.int .i64,.int .i64,.int .i64,.str,.oth,.str]
def sntT(t:SntX):List (ϔ×List Kd×List (List ϔ)):=[(t.2.1,[.str,.int .i64],t.1.pk.asks.map encA),(t.2.2.1,[.int .i64],t.1.pk.codes.map Zg),(t.2.2.2,[.int .i64,.str],t.1.msg.opts.map encO)]
def nest(l:List SesX)(o:List SntX):List (ϔ×List Kd×List (List ϔ)):=l.flatMap sesT++o.flatMap sntT
def Z3(l:List SesX)(o:List SntX):Asrt:=rdsZ (nest l o)
variable{l:List SesX}{o:List SntX}
def Zy{w:Ϫ}(h:(Z3 l o).holds w){t:SesX}(ht:t∈l):Zi w t.2.1 t.1.fl/\Zi w t.2.2 t.1.qu :=
 ⟨h (t.2.1,kF,t.1.fl.map encF) (ϣ _ (ϐ.2 ⟨t,ht,by simp[sesT]⟩)),h (t.2.2,kF,t.1.qu.map encF) (ϣ _ (ϐ.2 ⟨t,ht,by simp[sesT]⟩))⟩
def Z7n{w:Ϫ}(h:(Z3 l o).holds w){t:SntX}(ht:t∈o):Z4h w t.2.1 t.1.pk.asks/\Z3p w t.2.2.1 t.1.pk.codes/\Z3q w t.2.2.2 t.1.msg.opts :=
 ⟨h (t.2.1,[.str,.int .i64],t.1.pk.asks.map encA) (ϙ _ (ϐ.2 ⟨t,ht,by simp[sntT]⟩)),h (t.2.2.1,[.int .i64],t.1.pk.codes.map Zg) (ϙ _ (ϐ.2 ⟨t,ht,by simp[sntT]⟩)),h (t.2.2.2,[.int .i64,.str],t.1.msg.opts.map encO) (ϙ _ (ϐ.2 ⟨t,ht,by simp[sntT]⟩))⟩
def Z10{l':List SesX}{o':List SntX}{w:Ϫ}(h1:∀t∈l',t∈l\/(Zi w t.2.1 t.1.fl/\Zi w t.2.2 t.1.qu))(h2:∀t∈o',t∈o\/(Z4h w t.2.1 t.1.pk.asks/\Z3p w t.2.2.1 t.1.pk.codes/\Z3q w t.2.2.2 t.1.msg.opts))(h:(Z3 l o).holds w):(Z3 l' o').holds w:=by
 intro x hx;rcases qy13.1 hx with hx|hx
 ·obtain⟨t,ht,hx⟩:=ϐ.1 hx;have hr:Zi w t.2.1 t.1.fl/\Zi w t.2.2 t.1.qu:=by
   rcases h1 t ht with h3|h3
   ·exact Zy h h3
   exact h3
  simp only[sesT,ϥ,Ϸ,or_false]at hx;rcases hx with rfl|rfl
  ·exact hr.1
  exact hr.2
 obtain⟨t,ht,hx⟩:=ϐ.1 hx;have hr:Z4h w t.2.1 t.1.pk.asks/\Z3p w t.2.2.1 t.1.pk.codes/\Z3q w t.2.2.2 t.1.msg.opts:=by
  rcases h2 t ht with h3|h3
  ·exact Z7n h h3
  exact h3
 simp only[sntT,ϥ,Ϸ,or_false]at hx;rcases hx with rfl|rfl|rfl
 ·exact hr.1
 ·exact hr.2.1
 exact hr.2.2
def sesF(t:SesX)(k:Nat):Prop:=((t.1.fl.map encF).flatten≠[]/\Z1 t.2.1 k)\/((t.1.qu.map encF).flatten≠[]/\Z1 t.2.2 k)
def sntF(t:SntX)(k:Nat):Prop:=((t.1.pk.asks.map encA).flatten≠[]/\Z1 t.2.1 k)\/((t.1.pk.codes.map Zg).flatten≠[]/\Z1 t.2.2.1 k)\/((t.1.msg.opts.map encO).flatten≠[]/\Z1 t.2.2.2 k)
def Z7{k:Nat}:(Z3 l o).fp k↔(∃t∈l,sesF t k)\/(∃t∈o,sntF t k):=by
 constructor
 ·rintro⟨x,hx,hk⟩;rcases qy13.1 hx with hx|hx
  ·obtain⟨t,ht,hx⟩:=ϐ.1 hx;simp only[sesT,ϥ,Ϸ,or_false]at hx;rcases hx with rfl|rfl
   ·exact .inl ⟨t,ht,.inl hk⟩
   exact .inl ⟨t,ht,.inr hk⟩
  obtain⟨t,ht,hx⟩:=ϐ.1 hx;simp only[sntT,ϥ,Ϸ,or_false]at hx;rcases hx with rfl|rfl|rfl
  ·exact .inr ⟨t,ht,.inl hk⟩
  ·exact .inr ⟨t,ht,.inr (.inl hk)⟩
  exact .inr ⟨t,ht,.inr (.inr hk)⟩
 rintro(⟨t,ht,h|h⟩|⟨t,ht,h|h|h⟩)
 ·exact⟨_,ϣ _ (ϐ.2 ⟨t,ht,qy8 ..⟩),h⟩
 ·exact⟨_,ϣ _ (ϐ.2 ⟨t,ht,qy10 _ (qy8 ..)⟩),h⟩
 ·exact⟨_,ϙ _ (ϐ.2 ⟨t,ht,qy8 ..⟩),h⟩
 ·exact⟨_,ϙ _ (ϐ.2 ⟨t,ht,qy10 _ (qy8 ..)⟩),h⟩
 exact⟨_,ϙ _ (ϐ.2 ⟨t,ht,qy10 _ (qy10 _ (qy8 ..))⟩),h⟩
def gSx0(l:List SesX)(i:Nat):Value.gS (((l.map Ze).getD i []).getD 0 undef)=(l.getD i sxD).1.cl:=by simp only[qy1,ϻ];cases l[i]?<;>simp[Ze,Value.gS,undef,s0]
def Z57{i:Nat}(h:i<l.length):(l.map Ze).getD i []=Ze (l.getD i sxD):=by rw[qy1,qy1,ϻ,qy7 h];rfl
def Z58{i:Nat}(h:i<l.length):l.getD i sxD∈l:=by rw[qy1,qy7 h];exact ϳ h
def Zhm(l:List SesX)(i:Nat):(l.map (·.1)).getD i s0=(l.getD i sxD).1:=by rw[qy1,qy1,ϻ];cases l[i]?<;>rfl
structure FlOk(fl:List Fl):Prop where
 each:∀f∈fl,flE f=0/\1<=f.1/\f.1<=65535
 ids:(fl.map (·.1)).Nodup
def Zi8{l:List Fl}{n:Int}:l.any (idIs n)=Ϟ↔n∈l.map (·.1):=by
 rw[φ,η];constructor
 ·rintro⟨x,hx,h⟩;exact⟨x,hx,by simpa[idIs]using h⟩
 rintro⟨x,hx,h⟩;exact⟨x,hx,by simpa[idIs]using h⟩
def Zk5:∀(l prev:List Fl),FlOk prev->(Ze1 prev l=0↔FlOk (prev++l))
 | [],prev,hp=>by simp[Ze1,hp]
 | f::l,prev,hp=>by
  have key:FlOk (prev++[f])↔(flE f=0/\(1<=f.1/\f.1<=65535)/\¬prev.any (idIs f.1)=Ϟ):=by
   constructor
   ·intro h;have h1:=h.each f O1;refine⟨h1.1,h1.2,λh2=>?_⟩;have h3:=h.ids;rw[Ϙ,ϰ]at h3;exact h3.2.2 _ (Zi8.1 h2) f.1 O1 rfl
   rintro⟨h1,h2,h3⟩;refine⟨λx hx=>?_,by rw[Ϙ,ϰ];refine⟨hp.ids,O1,λa ha b hb=>?_⟩;rw[Ϥ,Ϧ,qy12]at hb;subst hb;rintro rfl;exact h3 (Zi8.2 ha)⟩;rcases qy13.1 hx with hx|hx
   ·exact hp.each x hx
   rw[qy12.1 hx];exact⟨h1,h2⟩
  have up:FlOk (prev++f::l)->FlOk (prev++[f]):=by
   intro h;refine⟨λx hx=>h.each x ?_,by have:=h.ids;rw[show prev++f::l=(prev++[f])++l by simp,Ϙ,ϰ]at this;exact this.1⟩;rcases qy13.1 hx with hx|hx
   ·exact ϣ _ hx
   rw[qy12.1 hx];simp
  rw[Ze1];constructor
  ·intro h;split at h
   ·exact ϟ h O5
   split at h
   ·split at h
    ·exact ϟ h U
    have h1:=(Zk5 l (prev++[f]) (key.2 ⟨by simpa using ‹¬flE f≠0›,O5,O5⟩)).1 h;simpa using h1
   exact ϟ h U
  intro h;have h1:=key.1 (up h);rw[ϛ (by simpa using h1.1),ϝ h1.2.1,ϛ h1.2.2];exact(Zk5 l (prev++[f]) (up h)).2 (by simpa using h)
def Zk6:∀l:List Fl,Zfr l=0↔∀f∈l,flE f=0/\f.1=0
 | []=>by simp[Zfr]
 | f::l=>by
  rw[Zfr];constructor
  ·intro h;split at h
   ·exact ϟ h O5
   split at h
   ·have:=(Zk6 l).1 h;intro x hx;rcases ϥ.1 hx with rfl|hx
    ·exact⟨by simpa using ‹¬flE x≠0›,O5⟩
    exact this x hx
   exact ϟ h U
  intro h;have h1:=h f (qy8 ..);rw[ϛ (by simpa using h1.1),ϝ h1.2];exact(Zk6 l).2 λx hx=>h x (qy10 _ hx)
structure SesOk(s:Ses):Prop where
 cl:Z9 s.cl=Ϟ
 nf:s.fl.length<=3
 nq:s.qu.length<=6
 fl:FlOk s.fl
 qu:∀f∈s.qu,flE f=0/\f.1=0
 next:1<=s.next/\s.next<=65535
 off:¬s.on=Ϟ->s.clean=Ϟ->s.fl=[]/\s.qu=[]
 full:s.on=Ϟ->s.qu≠[]->s.fl.length=3
def FlOk.nil:FlOk []:=⟨O1,O1⟩
variable{s:Ses}
def Zxd:allS s=0↔FlOk s.fl/\∀f∈s.qu,flE f=0/\f.1=0:=by
 have h1:=Zk5 s.fl [] .nil;have h2:=Zk6 s.qu;rw[Ϩ]at h1;unfold allS;constructor
 ·intro h;split at h
  ·exact⟨h1.1 O5,h2.1 h⟩
  exact ϟ h O5
 rintro⟨h3,h4⟩;rw[ϝ (h1.2 h3)];exact h2.2 h4
def Zxe:chkS s=0↔SesOk s:=by
 constructor
 ·intro h;have⟨k1,k2,k3⟩:=Z1e1 h;unfold chkS at h;split at h
  ·split at h
   ·exact ϟ h U
   split at h
   ·obtain⟨a1,a2⟩:=(Zxd).1 O5;split at h
    ·exact ϟ h U
    rename_i hn;exact⟨O5,k2,k3,a1,a2,k1,λh1 h2=>(by have:¬0<(s.fl.length:Int)+s.qu.length:=λh3=>hn (.inl ⟨⟨h1,h2⟩,h3⟩);exact⟨Ϭ.1 O,Ϭ.1 O⟩),λh1 h2=>by have h4:s.qu.length≠0:=λh=>h2 (Ϭ.1 h);have:¬(s.fl.length:Int)<3:=λh3=>hn (.inr ⟨⟨h1,O⟩,h3⟩);omega⟩
   exact ϟ h O5
  exact ϟ h U
 intro h;have nf:=h.nf;have nq:=h.nq;unfold chkS;rw[ϝ h.cl,ϛ O,ϝ (Zxd.2 ⟨h.fl,h.qu⟩),ϝ h.next,ϛ];rintro(⟨⟨h1,h2⟩,h3⟩|⟨⟨h1,h2⟩,h3⟩)
 ·have:=h.off h1 h2;rw[this.1,this.2]at h3;exact ϟ h3 U
 have:=h.full h1 (λh4=>by rw[h4]at h2;exact ϟ h2 U);omega
abbrev pay(f:Fl):By:=f.2.2
def Z1f2(on:Bool):∀(qu fl:List Fl) (next:Int) (out:List Pk),FlOk fl->(∀f∈qu,flE f=0/\f.1=0)->(1<=next/\next<=65535)->fl.length<=3 -> FlOk (flyR on fl qu next out).1/\(∀f∈(flyR on fl qu next out).2.1,flE f=0/\f.1=0)/\(1<=(flyR on fl qu next out).2.2.1/\(flyR on fl qu next out).2.2.1<=65535)/\(flyR on fl qu next out).1.length<=3 /\ (flyR on fl qu next out).1.map pay++(flyR on fl qu next out).2.1.map pay=fl.map pay++qu.map pay/\(on=Ϟ->(flyR on fl qu next out).2.1≠[]->(flyR on fl qu next out).1.length=3)/\(flyR on fl qu next out).2.1.length<=qu.length:=by
 intro qu;induction qu with
 | nil=>intro fl next out h1 h2 h3 h4;exact⟨h1,by simp[flyR],h3,h4,rfl,λ_=>ϟ rfl,by simp[flyR]⟩
 | cons f q ih =>
  intro fl next out h1 h2 h3 h4
  rw[flyR];split
  ·rename_i hc;have hf:=h2 f (qy8 ..);have hid:=Zom (fl:=fl) h3;have hfree:=Z12w (fl:=fl) hc.2 h3;have h5:FlOk (fl++[(Z2n fl next,f.2.1,f.2.2)]):=by
    refine⟨λx hx=>?_,by rw[Ϙ,ϰ];refine⟨h1.ids,O1,λa ha b hb=>?_⟩;rw[Ϥ,Ϧ,qy12]at hb;subst hb;rintro rfl;have:=Zi8.2 ha;rw[Zi8.2 ha |> λh=>(show used fl (Z2n fl next)=Ϟ from h)]at hfree;exact γ hfree⟩;rcases qy13.1 hx with hx|hx
    ·exact h1.each x hx
    rw[qy12.1 hx];exact⟨hf.1,hid⟩
   obtain⟨i1,i2,i3,i4,i5,i6,i7⟩:=ih (fl++[(Z2n fl next,f.2.1,f.2.2)]) (nx_N (Z2n fl next)) (out++[(δ,1,Z2n fl next,f.2.1,f.2.2)]) h5 (λx hx=>h2 x (qy10 _ hx)) (Zlj hid).1 O3;exact⟨i1,i2,i3,i4,by rw[i5];simp,i6,by rw[ϗ];omega⟩
  rename_i hc;refine⟨h1,h2,h3,h4,rfl,λh _=>?_,Θ _⟩;have:¬fl.length<3:=λh5=>hc ⟨h,h5⟩
  show fl.length=3
  omega
def Zk7(s:Ses):List By:=s.fl.map pay++s.qu.map pay
def Zul(cl:Z9 s.cl=Ϟ)(nf:s.fl.length<=3)(nq:s.qu.length<=6)(fl:FlOk s.fl)(qu:∀f∈s.qu,flE f=0/\f.1=0)(next:1<=s.next/\s.next<=65535)(hon:s.on=Ϟ\/¬s.clean=Ϟ):SesOk (flyS s).1/\Zk7 (flyS s).1=Zk7 s:=by
 obtain⟨i1,i2,i3,i4,i5,i6,i7⟩:=Z1f2 s.on s.qu s.fl s.next [] fl qu next nf
 refine⟨⟨cl,i4,θ i7 nq,i1,i2,i3,λh1 h2=>?_,i6⟩,i5⟩;rcases hon with h|h
 ·exact ϟ h h1
 exact ϟ h2 h
def Z1k2(h:SesOk s):SesOk (goR s)/\Zk7 (goR s)=if s.clean=Ϟ then[]else Zk7 s:=by
 unfold goR Zk7;by_cases hc:s.clean=Ϟ
 ·simp only[hc];exact⟨⟨h.cl,O1,O1,.nil,O1,h.next,λ_ _=>⟨rfl,rfl⟩,γ⟩,rfl⟩
 simp only[ϛ hc];exact⟨⟨h.cl,h.nf,h.nq,h.fl,h.qu,h.next,λ_ h1=>ϟ h1 hc,γ⟩,trivial⟩
def Z1f3(h:SesOk s):SesOk (Zcu s).1/\Zk7 (Zcu s).1=Zk7 s :=
 Zul h.cl h.nf h.nq h.fl h.qu h.next (.inl rfl)
def Z19s{fl:List Fl}{id:Int}(h:FlOk fl):FlOk (Z3u fl id):=by refine⟨λx hx=>h.each x (ϒ.1 hx).1,?_⟩;exact h.ids.sublist (List.Sublist.map _ Ϻ)
def wL:List Wat:=[(1,[116],[97,47,98],16777215),(2,[116],[99],5)]
def Z14h(w:Ϫ):β ϓ 96 #[] w λe w'=>∃v,e=.returned (sc1 v)/\Z31 w' v wL/\Zdx w.heap.size v/\Mod [] w w':=by
 refine Wp (J:=[]) Z8j ?_;simp only[QR];intro v0 w' hr;refine⟨v0,rfl,owns.reads (hr.at_ 0 rfl),λk hk=>?_,hr.mod⟩;rcases hr.own _ (qy8 ..) rfl k hk with h|h
 ·exact h
 simp at h
def Z1hs(x:Wat):Prop:=Z4x x.1 x.2.1 x.2.2.1=0/\0<=x.2.2.2/\x.2.2.2<=16777215
def Zk8(a b:Wat):Prop:=Z8p b.1 b.2.1 a=δ
def Z19t:∀{l prev:List Wat},chkL prev l=0↔(∀x∈l,Z1hs x)/\l.Pairwise Zk8/\∀a∈prev,∀b∈l,Zk8 a b:=by
 intro l;induction l with
 | nil=>intro prev;simp[chkL]
 | cons w l ih =>
  intro prev;simp only[chkL];split
  ·rename_i h;exact⟨λe=>ϟ e h,λe=>ϟ (e.1 w (qy8 ..)).1 h⟩
  rename_i h;have h:=qy9.1 h;split
  ·rename_i h2;split
   ·rename_i h3;refine⟨λe=>ϟ e U,λe=>?_⟩;obtain⟨a,ha,hs⟩:=φ.1 h3;have:=e.2.2 a ha w (qy8 ..);rw[Zk8,hs]at this;cases this
   rename_i h3;rw[ih];have h3:∀a∈prev,Zk8 a w:=λa ha=>by have:=List.any_eq_false.1 (ν.2 h3) a ha;exact ν.2 this
   refine⟨λ⟨e1,e2,e3⟩=>⟨?_,Ϛ.2 ⟨λb hb=>e3 w O1 b hb,e2⟩,?_⟩,λ⟨e1,e2,e3⟩=>⟨λx hx=>e1 x (qy10 _ hx),(Ϛ.1 e2).2,?_⟩⟩
   ·intro x hx;rcases ϥ.1 hx with rfl|hx
    ·exact⟨h,h2⟩
    exact e1 x hx
   ·intro a ha b hb;rcases ϥ.1 hb with rfl|hb
    ·exact h3 a ha
    exact e3 a (by simp[ha]) b hb
   intro a ha b hb;rcases qy13.1 ha with ha|ha
   ·exact e3 a ha b (qy10 _ hb)
   rw[qy12]at ha;subst ha;exact(Ϛ.1 e2).1 b hb
  rename_i h2;exact⟨λe=>ϟ e U,λe=>ϟ (e.1 w (qy8 ..)).2 h2⟩
def Z17{l:List Wat}:Z1d l=0↔l.length<=12/\(∀x∈l,Z1hs x)/\l.Pairwise Zk8:=by
 unfold Z1d;split
 ·exact⟨λe=>ϟ e U,λe=>ϟ e.1 O⟩
 rw[Z19t];exact⟨λe=>⟨O,e.1,e.2.1⟩,λe=>⟨e.2.1,e.2.2,λa ha=>by cases ha⟩⟩
variable{n:By}
def Z1f4{l:List Wat}{p:Int}{t:By}(h:Z1d l=0)(h1:Z4x p t n=0)(h2:(filt p t l).length+1<=12):Z1d (filt p t l++[(p,t,n,1)])=0:=by
 rw[Z17]at h⊢;refine⟨by rw[qy11];exact h2,λx hx=>?_,Ϲ.2 ⟨h.2.2.filter _,List.pairwise_singleton _ _,by intro a ha b hb;rw[qy12]at hb;subst hb;have:=(ϒ.1 ha).2;simpa[Zk8]using this⟩⟩;rcases qy13.1 hx with hx|hx
 ·exact h.2.1 x (ϒ.1 hx).1
 rw[qy12]at hx;subst hx;exact⟨h1,(by decide:(0:Int)<=1),(by decide:(1:Int)<=16777215)⟩
variable(i:Int)
def adv1(n:By)(w:Wat):Wat:=if w.2.2.1=n then(w.1,w.2.1,w.2.2.1,(w.2.2.2+i) % 16777216)else w
def advL(n:By)(l:List Wat):List Wat:=l.map (adv1 i n)
def Z14i(n:By)(w:Wat):(adv1 i n w).2.2.1=w.2.2.1:=by unfold adv1;split<;>rfl
def Zmz(n:By)(w:Wat):(adv1 i n w).1=w.1/\(adv1 i n w).2.1=w.2.1:=by unfold adv1;split<;>exact⟨rfl,rfl⟩
def Z1f5(n:By)(l:List Wat):(advL i n l).length=l.length:=by simp[advL]
def Z1f6{i:Int}{w:Wat}(h:0<=w.2.2.2/\w.2.2.2<=16777215):0<=(adv1 i n w).2.2.2/\(adv1 i n w).2.2.2<=16777215:=by
 unfold adv1;split
 ·simp only;omega
 exact h
def Z19u(n:By)(w:Wat)(h:0<=w.2.2.2/\w.2.2.2<=16777215):Z5o n (adv1 i n w)=adv1 (i+1) n w:=by
 by_cases hn:w.2.2.1=n
 ·have e1:adv1 i n w=(w.1,w.2.1,w.2.2.1,(w.2.2.2+i) % 16777216):=by rw[adv1,ϝ hn]
  have e2:adv1 (i+1) n w=(w.1,w.2.1,w.2.2.1,(w.2.2.2+(i+1)) % 16777216):=by rw[adv1,ϝ hn]
  rw[e1,e2,Z5o];rw[ϝ hn];have:(if 16777215<(w.2.2.2+i) % 16777216+1 then(0:Int)else(w.2.2.2+i) % 16777216+1)=(w.2.2.2+(i+1)) % 16777216:=by split<;>omega
  rw[this]
 have e1:∀k:Int,adv1 k n w=w:=λk=>by rw[adv1,ϛ hn]
 rw[e1,e1,Z5o,ϛ hn]
def Z19v{i:Int}{l:List Wat}(h:okN l):Z3j n (advL i n l)=advL (i+1) n l:=by rw[Z3j,advL,List.map_map];exact ε λw hw=>Z19u i n w (h w hw)
def Z19w{l:List Wat}(h:okN l):advL 0 n l=l:=by
 have:l.map (adv1 0 n)=l.map id:=ε λw hw=>by
  have:=h w hw;unfold adv1;split
  ·have e:(w.2.2.2+0) % 16777216=w.2.2.2:=O;rw[e];rfl
  rfl
 rw[advL,this,List.map_id]
def Z1f7{i:Int}{l:List Wat}(h:Z1d l=0):Z1d (advL i n l)=0:=by rw[Z17]at h⊢;refine⟨by rw[Z1f5];exact h.1,λx hx=>(by obtain⟨w,hw,rfl⟩:=η.1 hx;have hw:=h.2.1 w hw;refine⟨?_,Z1f6 hw.2⟩;rw[(Zmz i n w).1,(Zmz i n w).2,Z14i];exact hw.1),by rw[advL,List.pairwise_map];refine h.2.2.imp λ{a b} hab=>?_;rw[Zk8,Z8p,(Zmz i n a).1,(Zmz i n a).2,(Zmz i n b).1,(Zmz i n b).2];exact hab⟩
def loK(l:List Kp)(n:By):List Kp:=l.filter λk=>Z5 k.1 n
def miK(l:List Kp)(n:By):List Kp:=l.filter λk=>decide (k.1=n)
def hiK(l:List Kp)(n:By):List Kp:=l.filter λk=>Z5 n k.1
def Z109:∀(l:List Kp) (n:By),Z9q l->l=loK l n++miK l n++hiK l n/\(miK l n).length<=1
 | [],_,_=>by simp[loK,miK,hiK]
 | k::r,n,h=>by
  obtain⟨h1,h2⟩:=Ϛ.1 h;obtain⟨e,hm⟩:=Z109 r n h2;cases hk:Z5 k.1 n with
  | true =>
   have a1:loK (k::r) n=k::loK r n:=by simp[loK,hk]
   have a2:miK (k::r) n=miK r n:=by simp[miK,Z7k hk]
   have a3:hiK (k::r) n=hiK r n:=by simp[hiK,Z1h hk]
   rw[a1,a2,a3];exact⟨by rw[χ,χ,<- e],hm⟩
  | false =>
   have hgt:∀x∈r,Z5 n x.1=Ϟ:=λx hx=>by
    rcases Z15.1 hk with h3|h3
    ·exact Zf h3 (h1 x hx)
    rw[h3];exact h1 x hx
   have b1:=Z4a λx hx=>Z1h (hgt x hx);have b2:miK r n=[]:=Z4a λx hx=>decide_eq_false (λe=>by have:=hgt x hx;rw[e,Zs]at this;cases this);have b3:=Z6m hgt;have a1:loK (k::r) n=[]:=by rw[loK,Ϝ,hk];exact b1
   rcases Z15.1 hk with h3|h3
   ·have a2:miK (k::r) n=[]:=by rw[miK,Ϝ,decide_eq_false (Z7k h3).symm];exact b2
    have a3:hiK (k::r) n=k::r:=by rw[hiK,Ϝ,h3,ϝ rfl];exact congrArg (Δ k) b3
    rw[a1,a2,a3];simp
   have a2:miK (k::r) n=[k]:=by rw[miK,Ϝ,decide_eq_true h3.symm,ϝ rfl];exact congrArg (Δ k) b2
   have a3:hiK (k::r) n=r:=by
    have:Z5 n k.1=δ:=by rw[<- h3];exact Zs _
    rw[hiK,Ϝ,this];exact b3
   rw[a1,a2,a3];simp
def Z14j(l:List Kp)(n:By):idx l n=(loK l n).length:=rfl
def Zum{l:List Kp}(h:Z9q l):l.take (idx l n)=loK l n:=by
 have e:=(Z109 l n h).1;rw[Z14j]
 calc l.take (loK l n).length=(loK l n++miK l n++hiK l n).take (loK l n).length:=by rw[<- e]
  _=loK l n:=by rw[ϯ,List.take_left]
def Z14k{l:List Kp}(h:Z9q l):l.drop (idx l n)=miK l n++hiK l n:=by
 have e:=(Z109 l n h).1;rw[Z14j]
 calc l.drop (loK l n).length=(loK l n++miK l n++hiK l n).drop (loK l n).length:=by rw[<- e]
  _=miK l n++hiK l n:=by rw[ϯ,List.drop_left]
def Z1ht{l:List Kp}(h:Z9q l):l.getD (idx l n) kD=(miK l n++hiK l n).getD 0 kD:=by rw[<- Z14k h];simp
def Z1c4{l:List Kp}(h:Z9q l):l.length=idx l n+(miK l n).length+(hiK l n).length:=by have e:=congrArg List.length (Z109 l n h).1;rw[qy11,qy11]at e;exact e
def Zun{l:List Kp}(h:Z9q l):(hasK l n=Ϟ/\∃k,miK l n=[k]/\k.1=n)\/(hasK l n=δ/\miK l n=[]):=by
 have hl:=Z1c4 (n:=n) h;have ha:=Z1ht (n:=n) h;have hm:=(Z109 l n h).2
 match he:miK l n,hm with
 | [],_ =>
  rw[he]at hl ha;refine .inr ⟨?_,rfl⟩;rw[hasK,decide_eq_false];rintro⟨h1,h2⟩;rw[ha]at h2
  match hb:hiK l n with
  | []=>rw[hb]at hl;simp at hl;omega
  | x::r =>
   rw[hb]at h2;have:x∈hiK l n:=by rw[hb];exact qy8 ..
   have h3:=(ϒ.1 this).2;have h2:x.1=n:=h2;rw[h2,Zs]at h3;cases h3
 | [k],_ =>
  have:k∈miK l n:=by rw[he];exact qy8 ..
  have hk:k.1=n:=by simpa using(ϒ.1 this).2
  rw[he]at hl ha;refine .inl ⟨?_,k,rfl,hk⟩;rw[hasK,decide_eq_true];refine⟨by rw[hl];simp;omega,?_⟩;rw[ha];exact hk
def verF(n:By):Int->List Kp->Int
 | c,[]=>c
 | c,k::r=>verF n (if k.1=n then minV k.2.2 else c) r
def Zuo(n:By):∀(l:List Kp) (c:Int),verF n c l=(miK l n).foldl (λ_ k=>minV k.2.2) c
 | [],_=>rfl
 | k::r,c=>by
  rw[verF,Zuo n r];by_cases h:k.1=n
  ·simp[h,miK]
  simp[h,miK]
def finF(x:Kp):List Kp->Bool->List Kp->List Kp
 | out,put,[]=>if put=Ϟ then out else out++[x]
 | out,put,k::r =>
  let o1:=if ¬put=Ϟ/\Z5 x.1 k.1=Ϟ then out++[x]else out
  let p1:=put || Z5 x.1 k.1
  finF x (if k.1=x.1 then o1 else o1++[k]) p1 r
def Zk9(x:Kp):∀(l:List Kp) (out:List Kp) (put:Bool),Z9q l->finF x out put l=out++loK l x.1++(if put=Ϟ then[]else[x])++hiK l x.1
 | [],out,put,_=>by cases put<;>simp[finF,loK,hiK]
 | k::r,out,put,h=>by
  obtain⟨h1,h2⟩:=Ϛ.1 h;rw[finF];cases hk:Z5 k.1 x.1 with
  | true =>
   have g:=Z1h hk;have a1:loK (k::r) x.1=k::loK r x.1:=by simp[loK,hk]
   have a3:hiK (k::r) x.1=hiK r x.1:=by simp[hiK,g]
   simp only[g,Γ,ϧ,and_false,if_false,ϛ (Z7k hk)];rw[Zk9 x r _ _ h2,a1,a3];simp
  | false =>
   have hgt:∀y∈r,Z5 x.1 y.1=Ϟ:=λy hy=>by
    rcases Z15.1 hk with h3|h3
    ·exact Zf h3 (h1 y hy)
    rw[h3];exact h1 y hy
   have b1:loK r x.1=[]:=Z4a λy hy=>Z1h (hgt y hy);have b3:hiK r x.1=r:=Z6m hgt;have a1:loK (k::r) x.1=[]:=by rw[loK,Ϝ,hk];exact b1
   rcases Z15.1 hk with h3|h3
   ·have a3:hiK (k::r) x.1=k::r:=by rw[hiK,Ϝ,h3,ϝ rfl];exact congrArg (Δ k) b3
    simp only[h3,ξ,ϛ (Z7k h3).symm];rw[Zk9 x r _ _ h2,a1,a3,b1,b3];cases put<;>simp
   have g:Z5 x.1 k.1=δ:=by rw[<- h3];exact Zs _
   have a3:hiK (k::r) x.1=r:=by rw[hiK,Ϝ,g];exact b3
   simp only[g,Γ,ϧ,and_false,if_false,ϝ h3.symm];rw[Zk9 x r _ _ h2,a1,a3,b1,b3]
def putO(l:List Kp)(n p:By):List Kp×Int :=
 if 200<(p.length:Int)then([],2)else
  if 16<((finF (n,p,verF n 1 l) [] (decide (p=[])) l).length:Int)then([],2)else(finF (n,p,verF n 1 l) [] (decide (p=[])) l,0)
def Z14l{l:List Kp}{p:By}(h:chkK l=0):putO l n p=rawK l n p:=by
 obtain⟨k1,k2,k3⟩:=Z11.1 h;have hl:=Z1c4 (n:=n) k3;unfold putO rawK;split
 ·rfl
 rw[Zk9 _ l [] _ k3,Zuo];simp only[Ϩ];have ha:=Z1ht (n:=n) k3;have hd:=Z14k (n:=n) k3;have hlo:=Z14j l n;rcases Zun k3 with⟨h1,k,h2,h3⟩|⟨h1,h2⟩
 ·rw[h2]at hl ha hd;have hd1:l.drop (idx l n+1)=hiK l n:=by rw[<- List.drop_drop,hd];rfl
  have hlt:idx l n<l.length:=by rw[hl];simp;omega
  have ha':l.getD (idx l n) kD=k:=ha;simp only[ϗ,ϖ]at hl;by_cases hp:p=[]
  ·rw[ϝ (⟨h1,hp⟩:hasK l n=Ϟ/\p=[]),Zum k3,hd1];simp only[hp,decide_true,if_true,Ϣ,qy11];rw[ϛ O]
  rw[ϛ (λh=>hp h.2:¬(hasK l n=Ϟ/\p=[])),ϝ h1];simp only[decide_eq_false hp,ϧ,if_false,h2,List.foldl_cons,ω,qy11,ϗ,ϖ];rw[ϛ O,ha',List.set_eq_take_append_cons_drop,ϝ hlt,Zum k3,hd1,h3];simp
 rw[h2]at hl hd;rw[h1];simp only[ϧ,false_and,if_false,ϖ]at hl⊢;by_cases hp:p=[]
 ·rw[ϝ hp];simp only[hp,decide_true,if_true,Ϣ,qy11];rw[ϛ O];have:=(Z109 l n k3).1;rw[h2,Ϣ]at this;rw[<- this]
 rw[ϛ hp];simp only[decide_eq_false hp,ϧ,if_false,h2,ω,qy11,ϗ,ϖ];by_cases h4:(l.length:Int)=16
 ·rw[ϝ h4,ϝ O]
 rw[ϛ h4,ϛ O,Zum k3,hd];simp
def Z1f8(w:Ϫ)(v:ϔ)(l:List Kp)(n p:By)(hv:Z1r w v l)(hs:chkK l=0)(hsm:Zb5 l)(hn:n.length<4294967281):β ϓ 129 #[sc1 v,.string ⟨n.toArray⟩,.string ⟨p.toArray⟩] w λe w'=>gotK w w' e (rawK l n p).1 (rawK l n p).2:=by
 obtain⟨k1,k2,k3⟩:=Z11.1 hs;have hver:∀i,i<l.length->1<=(l.getD i kD).2.2/\(l.getD i kD).2.2<=16777215:=λi hi=>by
  have hm:l.getD i kD∈l:=by rw[qy1,qy7 hi];exact ϳ hi
  exact(k2 _ hm).2.2.2
 rw[<- Z14l hs];refine Wr (J:=[.v v,.r (l.map encK),.s n,.s p]) Zai ?_;simp only[QR,ra,gK0,gK1,gK2,Ϩ];refine⟨λh w' hr=>?_,λh b=>?_⟩
 ·rw[putO,ϝ h];exact⟨_,rfl,Z2z _,Z2r _,hr.mod⟩
 rw[putO,ϛ h];refine⟨λvs=>∃(i:Nat) (c:Int),vs=[.i i,.s n,.s p,.i c]/\i<=l.length/\verF n c (l.drop i)=verF n 1 l,λvs=>l.length - (vs.getD 0 (.i 0)).toI.toNat,⟨0,1,rfl,O,rfl⟩,?_⟩;rintro _ - ⟨i,c,rfl,hi,hc⟩;simp only[QR,ra,gK0,gK1,gK2,Ϩ];refine⟨λh1=>⟨O,?_⟩,λh1=>?_⟩
 ·have hv1:=hver i O;rw[Zrh l i O,verF]at hc;exact⟨λh2=>⟨O,O,λh3=>⟨O,O,⟨i+1,16777215,rfl,O,by rw[ϝ h2,minV,ϝ h3]at hc;exact hc⟩,O⟩,λh3=>⟨O,O,⟨i+1,_,rfl,O,by rw[ϝ h2,minV,ϛ h3]at hc;exact hc⟩,O⟩⟩,λh2=>⟨O,O,⟨i+1,c,rfl,O,by rw[ϛ h2]at hc;exact hc⟩,O⟩⟩
 have:i=l.length:=O;subst this;rw[ψ,verF]at hc;subst hc;obtain⟨x,hx⟩:∃x:Kp,x=(n,p,verF n 1 l):=⟨_,rfl⟩
 rw[<- hx];have hx1:x.1=n:=by rw[hx]
 have ex:[Value.string ⟨n.toArray⟩,.string ⟨p.toArray⟩,.int .i64 (verF n 1 l)]=encK x:=by rw[hx];rfl
 rw[ex];refine⟨λvs=>∃(i:Nat) (u:ϔ) (out:List Kp) (put:Bool),vs=[.v u,.r (out.map encK),.b put,.i i]/\i<=l.length/\out.length<=2*i/\finF x out put (l.drop i)=finF x [] (decide (p=[])) l,λvs=>l.length - (vs.getD 3 (.i 0)).toI.toNat,⟨0,_,[],_,rfl,O,O1,rfl⟩,?_⟩;rintro _ - ⟨i,u,out,put,rfl,hi,hol,hf⟩;simp only[QR,ra,gK0,gK1,gK2,Ϩ,qy11,ϗ,ϖ];refine⟨λh2=>?_,λh2=>?_⟩
 ·rw[Zrh l i O,finF,hx1]at hf;refine⟨.inr O,?_⟩;refine⟨[.b (Z5 n (l.getD i kD).1)],rfl,λ_ w' _=>Z1q w' n _ (Nat.lt_trans hn U),?_⟩;simp only[QR,ra,gK0,gK1,gK2,Ϩ,qy11,ϗ,ϖ];refine⟨λh3 v1=>⟨O,λv2=>⟨O,λh4 v3=>⟨O,λv4=>⟨O,O,⟨i+1,v4,out++[x]++[l.getD i kD],Ϟ,by simp[encK],O,by simp;omega,by rw[ϝ h3,ϛ h4,h3.2,ξ]at hf;exact hf⟩,O⟩⟩,λh4=>⟨O,O,⟨i+1,v2,out++[x],Ϟ,by simp[encK],O,by simp;omega,by rw[ϝ h3,ϝ (qy9.1 h4),h3.2,ξ]at hf;exact hf⟩,O⟩⟩⟩,λh3=>⟨O,λh4 v1=>⟨O,λv2=>⟨O,O,⟨i+1,v2,out++[l.getD i kD],put,by simp[encK],O,by simp;omega,?_⟩,O⟩⟩,λh4=>⟨O,O,⟨i+1,u,out,put,rfl,O,O,?_⟩,O⟩⟩⟩
  ·have hp:(put || Z5 n (l.getD i kD).1)=put:=by
    cases put
    ·cases hlt:Z5 n (l.getD i kD).1
     ·rfl
     exact ϟ ⟨U,hlt⟩ h3
    rfl
   simp only[ϛ h3,ϛ h4,hp]at hf;exact hf
  have hp:(put || Z5 n (l.getD i kD).1)=put:=by
   cases put
   ·cases hlt:Z5 n (l.getD i kD).1
    ·rfl
    exact ϟ ⟨U,hlt⟩ h3
   rfl
  simp only[ϛ h3,ϝ (qy9.1 h4),hp]at hf;exact hf
 have:i=l.length:=O;subst this;rw[ψ,finF]at hf;refine⟨λh3 v1=>⟨O,λv2=>⟨λh4 w' hr=>(by rw[ϛ h3]at hf;rw[<- hf,ϝ (by simpa using h4)];exact⟨_,rfl,Z2z _,Z2r _,hr.mod⟩),λh4 w' hr=>by rw[ϛ h3]at hf;rw[<- hf,ϛ (by simpa using h4)];have h0:=(hr.at_ 0 rfl).reads;refine⟨v2,rfl,?_,hr.fresh 0 rfl,hr.mod⟩;simp only[QR,ra,ex]at h0;rw[Z1r,Ϙ];exact h0⟩⟩,λh3=>⟨λh4 w' hr=>(by rw[ϝ (qy9.1 h3)]at hf;rw[<- hf,ϝ h4];exact⟨_,rfl,Z2z _,Z2r _,hr.mod⟩),λh4 w' hr=>by rw[ϝ (qy9.1 h3)]at hf;rw[<- hf,ϛ h4];exact⟨u,rfl,(hr.at_ 1 rfl).reads,hr.fresh 1 rfl,hr.mod⟩⟩⟩
def kA:List Kp:=[([97,47,98],[49],1),([99],[50],7)]
def Z1hu(w:Ϫ):β ϓ 93 #[] w λe w'=>gotL w w' e kA:=by refine Wp (J:=[]) Zb3 ?_;simp only[QR];exact λv0 w' hr=>⟨v0,rfl,(hr.at_ 0 rfl).reads,hr.fresh 0 rfl,hr.mod⟩
def newX(l:List Kp)(n p:By):List Kp:=if p=[]then[]else[(n,p,match miK l n with|k::_=>minV k.2.2 | []=>1)]
def Z1hv{l:List Kp}{x:Kp}(h:x∈loK l n):Z5 x.1 n=Ϟ:=(ϒ.1 h).2
def Z1hw{l:List Kp}{x:Kp}(h:x∈hiK l n):Z5 n x.1=Ϟ:=(ϒ.1 h).2
def Z14m{l:List Kp}{p:By}(h:chkK l=0)(he:(rawK l n p).2=0):(rawK l n p).1=loK l n++newX l n p++hiK l n/\p.length<=200/\(loK l n++newX l n p++hiK l n).length<=16:=by
 obtain⟨k1,k2,k3⟩:=Z11.1 h;rw[<- Z14l h]at he⊢;unfold putO at he⊢;have ef:finF (n,p,verF n 1 l) [] (decide (p=[])) l=loK l n++newX l n p++hiK l n:=by
  rw[Zk9 _ l [] _ k3,Zuo,newX];by_cases hp:p=[]
  ·simp[hp]
  rcases Zun (n:=n) k3 with⟨h1,k,h2,h3⟩|⟨h1,h2⟩
  ·simp[h2]
  simp[h2]
 rw[ef]at he⊢;split at he
 ·exact ϟ he U
 split at he
 ·exact ϟ he U
 rename_i q1 q2;rw[ϛ q1,ϛ q2];exact⟨rfl,O,O⟩
def Zup{l:List Kp}{p:By}(h:chkK l=0)(hn:chkT n δ=0)(he:(rawK l n p).2=0):chkK (rawK l n p).1=0:=by
 obtain⟨k1,k2,k3⟩:=Z11.1 h;obtain⟨e,hp,hl⟩:=Z14m h he;rw[e];have hlo:Z9q (loK l n):=k3.sublist Ϻ;have hhi:Z9q (hiK l n):=k3.sublist Ϻ;have hnx:∀x∈newX l n p,x.1=n/\okK x:=by
  intro x hx;unfold newX at hx;split at hx
  ·cases hx
  rename_i hp0;rw[qy12]at hx;subst hx;refine⟨rfl,hn,hp0,O4,?_,?_⟩
  ·cases hm:miK l n with
   | nil=>simp
   | cons k r =>
    have:=(k2 k (ϒ.1 (show k∈miK l n by rw[hm];exact qy8 ..)).1).2.2.2;simp only[minV];split<;>omega
  cases hm:miK l n with
  | nil=>simp
  | cons k r =>
   have:=(k2 k (ϒ.1 (show k∈miK l n by rw[hm];exact qy8 ..)).1).2.2.2;simp only[minV];split<;>omega
 refine Z11.2 ⟨hl,λk hk=>?_,?_⟩
 ·simp only[qy13]at hk;rcases hk with(hk|hk)|hk
  ·exact k2 k (ϒ.1 hk).1
  ·exact(hnx k hk).2
  exact k2 k (ϒ.1 hk).1
 refine Ϲ.2 ⟨Ϲ.2 ⟨hlo,by unfold newX;split<;>simp,λa ha b hb=>by rw[(hnx b hb).1];exact Z1hv ha⟩,hhi,λa ha b hb=>?_⟩;rcases qy13.1 ha with ha|ha
 ·exact Zf (Z1hv ha) (Z1hw hb)
 rw[(hnx a ha).1];exact Z1hw hb
def Z1f9{l:List Kp}(h:Z9q l)(hm:∃k∈l,k.1=n):hasK l n=Ϟ:=by
 rcases Zun h with⟨h1,-⟩|⟨-,h2⟩
 ·exact h1
 obtain⟨k,hk,he⟩:=hm;have:k∈miK l n:=ϒ.2 ⟨hk,by simp[he]⟩;rw[h2]at this;cases this
open Go
def Zel{l:List Kp}(h:Zl l=0):l.length<=20:=(Z1v.1 h).1
def Z14n{l:List Kp}(n:By)(h:Zl l=0):(rdOf n l).length<=20:=by have:=Zow n l [];have:=Zel h;simp only[ϖ]at *;exact θ O5 O
def Z1fa{l:List Kp}(h:Zl l=0):Z198 l:=Zmo (Z1v.1 h).2.2
def Zp7{l:List Kp}(h:Zl l=0){y:Rd}(hy:y∈rdOf n l):∃x∈l,forW n x=Ϟ/\x.1=y.1/\x.2.2=y.2:=by
 have h1:=((Z13i (Z1fa h)).2 y.1 y.2).1 hy;rcases Z13g (λw hw=>(Zrr h w hw).2.2.1) h1 with h2|h2
 ·cases h2
 exact h2
