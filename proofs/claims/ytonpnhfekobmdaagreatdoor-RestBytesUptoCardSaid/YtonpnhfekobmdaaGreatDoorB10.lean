/- By an AI agent. -/
import Derived.Shelf.RegionOpenPlain
import Derived.Lib.Strings
import Derived.Lib.Slices
import Derived.Lib.Walk
import Derived.Lib.Builder
import Derived.Lib.AppendStr
import Derived.Lib.UnsafeStr
import Derived.Test.YtonpnhfekobmdaaGreatDoorB09
set_option linter.all false
set_option maxHeartbeats 20000000
namespace Go.Proofs.Y
open Go.Sx Go.RowKit
theorem Zmi:(Tryz.prog.info? 115).map (·.size)=some 2:=by kernel_rfl
theorem Zsc:(Tryz.prog.info? 5).map (λi=>(i.zero,i.size,i.bytes))=some (some (.int .u8 0),1,1):=by kernel_rfl
noncomputable def Zsd(ty n:Nat):Bool:=liesAt Tryz.prog Tryz.prog.depth ty (n / Tryz.prog.cellsOf ty) 0 115 1
set_option maxRecDepth 100000 in
theorem Z7d(b:Nat)(w:World)(h0:w.cell? ⟨b,0,none⟩=some (.pointer (some ⟨b,0,none⟩))) : Calls Tryz.prog 135 #[.pointer (some ⟨b,0,none⟩)] w λe w'=>e=.returned (.tuple #[])/\w'=w:=by
 obtain⟨j,hj,_⟩:=Option.map_eq_some_iff.1 Zmi;go_enter Tryz.func135,Tryz.ntmps135
 go_wp2
 rw[Lib.run_neq_ptr_same w _ Tryz.underlying113 hj];go_wp2
 go_end0
 exact⟨rfl,rfl⟩
set_option maxRecDepth 100000 in
theorem Z6k(ty n b:Nat)(w:World)(hT:Zsd ty n=true)(hn:0<n)(h0:w.cell? ⟨b,0,none⟩=some (.pointer none))(hsh:w.shape? b=some (ty,n))(hfz:w.frozen? ⟨b,0,none⟩=false) : Calls Tryz.prog 135 #[.pointer (some ⟨b,0,none⟩)] w λe w'=>e=.returned (.tuple #[])/\w'=w.setCell ⟨b,0,none⟩ (.pointer (some ⟨b,0,none⟩)):=by
 obtain⟨j,hj,hjs⟩:=Option.map_eq_some_iff.1 Zmi;go_enter Tryz.func135,Tryz.ntmps135
 go_wp2
 rw[Lib.run_to_unsafe w ⟨b,0,none⟩ Tryz.underlying113 Tryz.underlying162 hj (by rw[hjs];decide) hsh hn];simp only[Result.andThen];rw[Oper.upon_value];go_wp2
 rw[run_callFunc_extern Tryz.func148 (by kernel_rfl) (by kernel_rfl) (by kernel_rfl) (e:=Extern.AbiNoEscape.same) (by kernel_rfl)];rw[Lib.run_noEscape];simp only[Result.andThen];rw[Oper.upon_value];go_wp2
 rw[Lib.run_from_unsafe w ⟨b,0,none⟩ Tryz.underlying162 Tryz.underlying113 hj hsh hT];simp only[Result.andThen];rw[Oper.upon_value];go_wp2
 go_end0
 exact⟨rfl,rfl⟩
theorem Zpb:∃i0,Tryz.prog.info? 5=some i0/\i0.zero=some (.int .u8 0)/\i0.size=1/\i0.bytes=1:=by obtain⟨i0,hi,h⟩:=Option.map_eq_some_iff.1 Zsc;simp only[Prod.mk.injEq]at h;exact⟨i0,hi,h.1,h.2.1,h.2.2⟩
theorem Z1x{w:World}{b ty:Nat}{cs:List Value}(h:w.heap[b]?=some (.cells cs.toArray ty (0,0)))(j:Nat):w.cell? ⟨b,j,none⟩=cs[j]?:=by rw[Lib.cell_of_heap h];simp
theorem Zi0(s:List UInt8):(s.map λb=>[Value.int .u8 (b.toNat:Int)]).flatten=Lib.strCells ⟨s.toArray⟩:=by simp[Lib.strCells];induction s<;>simp_all
theorem Zmj(s:List UInt8):∀r∈s.map λb=>[Value.int .u8 (b.toNat:Int)],rowOk [.int .u8] r:=by intro r hr;obtain⟨b,-,rfl⟩:=List.mem_map.1 hr;exact⟨⟨_,rfl⟩,trivial⟩
section
variable {P:Program} {w:World}
theorem Zjp(t u ty e:TypeId)(i:TypeInfo)(ht:P.underlying t=some (.slice e))(hu:P.underlying u=some .string)(hi:P.info? e=some i)(hz:i.zero=some (.int .u8 0)) (hsize:i.size=1) (hby:i.bytes=1) (v:Value) (n:Nat) (xs:List Value) (hown:w.ownsRow 0 e 1 v n xs) (s:ByteArray) (hb:n+s.size<=140737488355328) : ∃v' w',(Builtin.append_ #[t,u] ty #[v,.string s]).run P w=.ok v' w'/\w'.ownsRow 0 e 1 v' (n+s.size) (xs++Lib.strCells s)/\w.grownBy w' v.ownBlock /\ ∀k,v'.ownBlock=some k->v.ownBlock=some k\/w.heap.size<=k:=by
  have h63:n+s.size<=maxLen:=by unfold maxLen;omega
  obtain⟨v',w',h1,h2,h3,-⟩:=Lib.run_append_own_string (P:=P) (w:=w) 0 t u ty e i ht hu hi hz hsize hby v n xs hown s h63 hb (Nat.zero_le _);refine⟨v',w',h1,h2,h3,λk hk=>?_⟩;have hxl:xs.length=n:=by simpa using hown.1
  rcases hown.2 with⟨rfl,rfl⟩|⟨g,cap,cur,rfl,hbg,hg,hnc,hcm,hcs,htake⟩
  . have hx:xs=[]:=List.eq_nil_of_length_eq_zero hxl;subst hx;obtain⟨v2,w2,k1,k2,k3,-⟩:=Lib.run_append_own_string (P:=P) (w:=w) w.heap.size t u ty e i ht hu hi hz hsize hby (.slice none 0 0) 0 [] (World.ownsRow_nil _ _ _ _) s h63 hb (Nat.le_refl _);rw[h1]at k1;simp only[Result.ok.injEq]at k1;obtain⟨rfl,rfl⟩:=k1;exact .inr (k2.lt k hk).1
  . by_cases hroom:n+s.size<=cap
    . have hr:=Lib.run_append_room_string (P:=P) w t u ty e i ht hu hi hsize g n cap cur hg s hroom (by unfold maxLen at h63;omega);rw[h1]at hr;simp only[Result.ok.injEq]at hr;obtain⟨rfl,-⟩:=hr;exact .inl hk
    . have holds:∀j u,xs[j]?=some u->w.cell? ((⟨g,0,none⟩:Addr).add j)=some u:=hown.cells (g:=g) rfl;have hr:=Lib.run_append_grow_string (P:=P) w t u ty e i (.int .u8 0) ht hu hi hz ⟨g,0,none⟩ n cap xs (by rw[hsize];simpa using hxl) holds s (by omega) (by unfold maxLen at h63;omega) (by rw[hby];exact growslice_fits (by omega) (by omega));rw[h1]at hr;simp only[Result.ok.injEq]at hr;obtain⟨rfl,-⟩:=hr;simp[Value.ownBlock]at hk;exact .inr (by omega)
theorem Z8c{ops:Array Oper}{rest:List Oper}{o:Oper}{a:Act}{Q:Exit->Act->World->Prop}(hgd:o.guard=none)(sl x:Operand)(t u:TypeId) (ho:o.op=.call { callee:=.builtin .append,args:=#[sl,x],argTypes:=#[t,u] })
  (e:TypeId) (i:TypeInfo) (ht:P.underlying t=some (.slice e)) (hu:P.underlying u=some .string) (hi:P.info? e=some i) (hz:i.zero=some (.int .u8 0))
  (hsize:i.size=1) (hby:i.bytes=1) (v:Value) (n:Nat) (xs:List Value) (hs:a.eval sl=v) (hown:w.ownsRow 0 e 1 v n xs) (s:ByteArray) (hx:a.eval x=.string s) (hb:n+s.size<=140737488355328)
  (h:∀v' w',w'.ownsRow 0 e 1 v' (n+s.size) (xs++Lib.strCells s)->w.grownBy w' v.ownBlock->(∀k,v'.ownBlock=some k->v.ownBlock=some k\/w.heap.size<=k)->wpList P ops Q rest (a.put o.dst v') w') :
  wpList P ops Q (o::rest) a w:=by
 refine wpList_plain hgd λK hK=>?_;obtain⟨v',w',hr,h2,h3,h4⟩:=Zjp (P:=P) (w:=w) t u o.type e i ht hu hi hz hsize hby v n xs hown s hb;unfold Oper.wp execOp;simp only[ho,resolve,invoke,builtin,Sem.run_bind,Sem.run_pure,Result.andThen_ok,List.map_toArray,List.map_cons,List.map_nil,hs,hx,hr];exact hK _ _ (h v' w' h2 h3 h4)
end
set_option maxRecDepth 100000 in
theorem Zah(ty b:Nat)(p v:Value)(rest:List Value)(rows:List (List Value))(s:List UInt8)(w:World)(hT:Zsd ty (rest.length+2)=true)(hty:ty≠5) (hb:w.heap[b]?=some (.cells (p::v::rest).toArray ty (0,0))) (hp:p=.pointer none\/p=.pointer (some ⟨b,0,none⟩)) (hown:owns w v 5 [.int .u8] rows) (hlen:rows.length+s.length<=140737488355328) : Calls Tryz.prog 116 #[.pointer (some ⟨b,0,none⟩),.string ⟨s.toArray⟩] w λe w'=>e=.returned (.tuple #[.int .i64 s.length,.nilIface]) /\ ∃v',w'.heap[b]?=some (.cells (.pointer (some ⟨b,0,none⟩)::v'::rest).toArray ty (0,0))/\owns w' v' 5 [.int .u8] (rows++s.map λb=>[Value.int .u8 (b.toNat:Int)]) /\ Mod (b::v.ownBlock.toList) w w'/\∀k,Z3 v' k->w.heap.size<=k\/k∈v.ownBlock.toList:=by
 obtain⟨i0,hi,hz0,hz1,hz2⟩:=Zpb;have hne:∀k,v.ownBlock=some k->k≠b:=λk hk e=>by
  subst e;rcases hown.2.2 with⟨hv,-⟩|⟨g,cap,cur,hv,-,hg,-⟩
  ·rw[hv]at hk;cases hk
  ·rw[hv]at hk;simp[Value.ownBlock]at hk;subst hk;rw[hb]at hg;simp at hg;exact hty hg.2
 have hlt:b<w.heap.size:=(Array.getElem?_eq_some_iff.1 hb).1;have hchk:Calls Tryz.prog 135 #[.pointer (some ⟨b,0,none⟩)] w λe w'=>e=.returned (.tuple #[])/\w'.heap[b]?=some (.cells (.pointer (some ⟨b,0,none⟩)::v::rest).toArray ty (0,0))/\Mod [b] w w':=by
  rcases hp with rfl|rfl
  ·refine(Z6k ty (rest.length+2) b w hT (by omega) (Z1x hb 0) (by simp[World.shape?,hb]) (Lib.frozen_of_heap hb 0)).mono ?_;rintro e w' ⟨rfl,rfl⟩;refine⟨rfl,?_,Mod.setCell _ _ _ (.inl (by simp))⟩;simp[World.setCell,Array.getElem?_modify,hb]
  ·refine(Z7d b w (Z1x hb 0)).mono ?_;rintro e w' ⟨rfl,rfl⟩;exact⟨rfl,hb,Mod.refl _ _⟩
 have e240:∀args w,(callFunc 135 args).run Tryz.prog w=.ok (.enter 135 args) w:=enters_of Tryz.func135 (by kernel_rfl) rfl;go_enter Tryz.func116,Tryz.ntmps116
 go_wp2_with (go_at_fn 135;refine hchk.mono ?_)
 rintro e w1 ⟨rfl,hbk,hm1⟩;have hown1:owns w1 v 5 [.int .u8] rows:=owns.stable hown λk hk=>hm1.block k (hown.2.lt k hk).2 (by simpa using hne k hk);have c0:w1.cell? ⟨b,0,none⟩=some (.pointer (some ⟨b,0,none⟩)):=Z1x hbk 0;have c1:w1.cell? ⟨b,1,none⟩=some v:=Z1x hbk 1;have ho1:=hown1.2;have hfl:rows.flatten.length=rows.length:=by have:=ho1.1;simpa using this
 go_wp2_with (at_builtin;refine Z8c rfl _ _ 110 9 rfl 5 i0 Tryz.underlying110 Tryz.underlying9 hi hz0 hz1 hz2 _ _ _ rfl ho1 ⟨s.toArray⟩ rfl ?c4 ?_)
 case c4=>simp only[ByteArray.size];simp;omega
 intro v' w2 hown' hgrow hloc;have hlt1:b<w1.heap.size:=Nat.lt_of_lt_of_le hlt hm1.size;have hb2:w2.heap[b]?=some (.cells (.pointer (some ⟨b,0,none⟩)::v::rest).toArray ty (0,0)):=by rw[hgrow.block b hlt1 (λe=>hne b e.symm rfl)];exact hbk
 have d0:w2.cell? ⟨b,0,none⟩=some (.pointer (some ⟨b,0,none⟩)):=Z1x hb2 0;have d1:w2.cell? ⟨b,1,none⟩=some v:=Z1x hb2 1;have f1:w2.frozen? ⟨b,1,none⟩=false:=Lib.frozen_of_heap hb2 1;have hnl:((rows++s.map λb=>[Value.int .u8 (b.toNat:Int)]).length)=rows.length+s.length:=by simp
 have hfl2:(rows++s.map λb=>[Value.int .u8 (b.toNat:Int)]).flatten=rows.flatten++Lib.strCells ⟨s.toArray⟩:=by rw[List.flatten_append,Zi0]
 have hsz:(⟨s.toArray⟩:ByteArray).size=s.length:=by simp[ByteArray.size]
 obtain⟨ao,n',cap,rfl⟩:∃ao n' cap,v'=.slice ao n' cap:=by
  rcases hown'.2 with⟨hv,_⟩|⟨g,cap,cur,hv,_⟩
  ·exact⟨_,_,_,hv⟩
  ·exact⟨_,_,_,hv⟩
 have hvb:∀k,(Value.slice ao n' cap).ownBlock=some k->k≠b:=λk hk e=>by
  subst e;rcases hloc k hk with h|h
  ·exact hne k h rfl
  ·omega
 go_wp2
 go_ret2
 have hs3:(w2.setCell ⟨b,1,none⟩ (.slice ao n' cap)).heap[b]?=some (.cells (.pointer (some ⟨b,0,none⟩)::.slice ao n' cap::rest).toArray ty (0,0)):=by have hlt2:b<w2.heap.size:=(Array.getElem?_eq_some_iff.1 hb2).1;have e:=(Array.getElem?_eq_some_iff.1 hb2).2;simp[World.setCell,Array.getElem?_modify,hb2]
 refine⟨rfl,.slice ao n' cap,hs3,?_,?_,?_⟩
 ·refine owns.stable (w:=w2) ⟨λr hr=>?_,?_⟩ λk hk=>(Mod.setCell (fp:=[b]) w2 ⟨b,1,none⟩ (.slice ao n' cap) (.inl (by simp))).block k (hown'.lt k hk).2 (by simpa using hvb k hk)
  ·rcases qy13.1 hr with h|h
   ·exact hown.1 r h
   ·exact Zmj s r h
  ·rw[hnl,hfl2,<- hsz];exact hown'
 ·refine((hm1.mono (fp':=b::v.ownBlock.toList) (by simp)).trans (fp':=b::v.ownBlock.toList) (Mod.of_grown hgrow (λk hk=>.inl (by simp[hk]))) (λk hk=>.inl hk)).trans (fp':=[b]) (Mod.setCell _ _ _ (.inl (by simp))) (by simp)
 ·intro k hk;rcases hloc k hk with h|h
  ·exact .inr (by simp[h])
  ·exact .inl (Nat.le_trans hm1.size h)
set_option maxRecDepth 100000 in
theorem Zse(ty b:Nat)(p v:Value)(rest:List Value)(rows:List (List Value))(w:World) (hb:w.heap[b]?=some (.cells (p::v::rest).toArray ty (0,0))) (hown:owns w v 5 [.int .u8] rows) : Calls Tryz.prog 85 #[.pointer (some ⟨b,0,none⟩)] w λe w'=>e=.returned (.int .i64 rows.length)/\w'=w:=by
 obtain⟨ao,cap,rfl⟩:∃ao cap,v=.slice ao rows.length cap:=by
  rcases hown.2.2 with⟨hv,h0⟩|⟨g,cap,cur,hv,_⟩
  ·exact⟨none,0,by rw[hv,h0]⟩
  ·exact⟨_,_,hv⟩
 have c1:w.cell? ⟨b,1,none⟩=some (.slice ao rows.length cap):=Z1x hb 1;go_enter Tryz.func85,Tryz.ntmps85
 go_wp2
 go_ret
 exact⟨rfl,rfl⟩
theorem Zjq(fp:List Nat)(w:World)(g n:Nat)(h:g∈fp):Mod fp w (w.freeze ⟨g,0,none⟩ n):=by
 unfold World.freeze;split
 ·exact Mod.refl _ _
 ·refine⟨rfl,rfl,rfl,by simp,λk hk hn=>?_⟩;have:k≠g:=λe=>hn (e▸h);simp[Array.getElem?_modify,Ne.symm this]
theorem Zmk:Tryz.prog.follows .mixedOrders=true:=by kernel_rfl
theorem Zml(s:List UInt8):(s.map λb=>[Value.int .u8 (b.toNat:Int)]).flatten=Lib.byteCells s:=by rw[Zi0];simp[Lib.strCells,Lib.byteCells]
theorem Zcx:Tryz.prog.cellsOf 5=1:=by kernel_rfl
set_option maxRecDepth 100000 in
theorem Zjr(ty b:Nat)(p v:Value)(rest:List Value)(l:List UInt8)(w:World) (hb:w.heap[b]?=some (.cells (p::v::rest).toArray ty (0,0))) (hown0:owns w v 5 [.int .u8] (l.map λb=>[Value.int .u8 (b.toNat:Int)])) : Calls Tryz.prog 86 #[.pointer (some ⟨b,0,none⟩)] w λe w'=>e=.returned (.string ⟨l.toArray⟩)/\Mod v.ownBlock.toList w w':=by
 have hown:=hown0.2;rw[Zml,qy3]at hown;have mixed:=Zmk;have hlt:b<w.heap.size:=(Array.getElem?_eq_some_iff.1 hb).1;have hUS:∀W q,(Builtin.unsafeString_ #[140,3] 9 #[.pointer q,.int .i64 0]).run Tryz.prog W=.ok (.string .empty) W:=λW q=>Lib.run_unsafeString_none W _ _ _ q;rcases hown.2 with⟨rfl,hl0⟩|⟨g,cap,cur,rfl,hbg,hg,hnc,hcm,hcs,htake⟩
 ·have hl:l=[]:=List.eq_nil_of_length_eq_zero hl0;subst hl;have c1:w.drew.cell? ⟨b,1,none⟩=some (.slice none 0 0):=Z1x (w:=w.drew) hb 1;have hSD:(Builtin.unsafeSliceData_ #[110] 140 #[.slice none 0 0]).run Tryz.prog w.drew=.ok (.pointer none) w.drew:=rfl;go_enter Tryz.func86,Tryz.ntmps86
  go_wp2
  go_region_o
  all_goals (go_wp2;go_ret;exact⟨rfl,Mod.drew _ w⟩)
 ·by_cases hl0:l=[]
  ·subst hl0;by_cases hc0:cap=0
   ·subst hc0;have c1:w.drew.cell? ⟨b,1,none⟩=some (.slice (some ⟨g,0,none⟩) 0 0):=Z1x (w:=w.drew) hb 1;have hSD:(Builtin.unsafeSliceData_ #[110] 140 #[.slice (some ⟨g,0,none⟩) 0 0]).run Tryz.prog w.drew=.ok (.pointer (some ⟨w.drew.heap.size,0,none⟩)) (w.drew.alloc (.view ⟨g,0,none⟩ 5)) :=
     Lib.run_unsafeSliceData_zero w.drew _ _ 5 Tryz.underlying140 ⟨g,0,none⟩ 0 (5,cur.size) (by have hg':w.drew.heap[g]?=some (.cells cur 5 (0,0)):=hg;simp[World.shape?,hg'])
    have c2:(w.drew.alloc (.view ⟨g,0,none⟩ 5)).cell? ⟨b,1,none⟩=some (.slice (some ⟨g,0,none⟩) 0 0):=by have:(w.drew.alloc (.view ⟨g,0,none⟩ 5)).heap[b]?=_:=(Lib.alloc_old w.drew _ b hlt).trans hb;exact Z1x this 1
    have c3:(w.alloc (.view ⟨g,0,none⟩ 5)).drew.cell? ⟨b,1,none⟩=some (.slice (some ⟨g,0,none⟩) 0 0):=c2;have c0:w.cell? ⟨b,1,none⟩=some (.slice (some ⟨g,0,none⟩) 0 0):=c1;go_enter Tryz.func86,Tryz.ntmps86
    go_wp2
    go_region_o
    all_goals (go_wp2;go_ret;exact⟨rfl,(Mod.drew _ w).trans (Mod.alloc _ _ _) (λk hk=>.inl hk)⟩)
   ·have c1:w.drew.cell? ⟨b,1,none⟩=some (.slice (some ⟨g,0,none⟩) 0 cap):=Z1x (w:=w.drew) hb 1;have hSD:(Builtin.unsafeSliceData_ #[110] 140 #[.slice (some ⟨g,0,none⟩) 0 cap]).run Tryz.prog w.drew=.ok (.pointer (some ⟨g,0,none⟩)) w.drew :=
     Lib.run_unsafeSliceData_row _ _ _ _ _ _ hc0
    clear hc0;go_enter Tryz.func86,Tryz.ntmps86
    go_wp2
    go_region_o
    all_goals (go_wp2;go_ret;exact⟨rfl,Mod.drew _ w⟩)
  ·have hl1:l.length≠0:=by simpa using hl0
   have c1:w.drew.cell? ⟨b,1,none⟩=some (.slice (some ⟨g,0,none⟩) l.length cap):=Z1x (w:=w.drew) hb 1;have hSD:(Builtin.unsafeSliceData_ #[110] 140 #[.slice (some ⟨g,0,none⟩) l.length cap]).run Tryz.prog w.drew=.ok (.pointer (some ⟨g,0,none⟩)) w.drew :=
    Lib.run_unsafeSliceData_row _ _ _ _ _ _ (by omega)
   have hUS':(Builtin.unsafeString_ #[140,3] 9 #[.pointer (some ⟨g,0,none⟩),.int .i64 l.length]).run Tryz.prog w.drew=.ok (.string ⟨l.toArray⟩) (w.drew.freeze ⟨g,0,none⟩ l.length):=by refine Lib.run_unsafeString_row w.drew 140 3 9 5 Tryz.underlying140 Zcx g cur.size (by have hg':w.drew.heap[g]?=some (.cells cur 5 (0,0)):=hg;simp[World.shape?,hg']) l hl0 (by simp at hcs;omega) (by unfold maxLen at hcm;omega) ?_;intro j x hx;have:=hown.cells (g:=g) rfl j (.int .u8 x.toNat) (by simp[Lib.byteCells,hx]);exact this
   go_enter Tryz.func86,Tryz.ntmps86
   go_wp2
   go_region_o
   all_goals (go_wp2;go_ret;exact⟨rfl,(Mod.drew _ w).trans (Zjq _ _ g _ (by simp[Value.ownBlock])) (λk hk=>.inl hk)⟩)
end Go.Proofs.Y
namespace Go.Proofs.Y
open Go.Sx
theorem Zjs:Zsd 117 2=true:=by kernel_rfl
def byW(l:List UInt8):List (List Value):=l.map λb=>[Value.int .u8 (b.toNat:Int)]
theorem Zsf(a b:List UInt8):byW (a++b)=byW a++byW b:=List.map_append
def okp(p:Value)(b:Nat):Prop:=p=.pointer none\/p=.pointer (some ⟨b,0,none⟩)
theorem okp.sc1{p:Value}{b:Nat}(h:okp p b):sc1 p=p:=by rcases h with rfl|rfl<;>rfl
structure wrS(w:World)(b:Nat)(p q:Value)(l:List UInt8):Prop where
 cells:w.heap[b]?=some (.cells [Sx.sc1 p,Sx.sc1 q].toArray 117 (0,0))
 ok:okp p b
 own:owns w q 5 [.int .u8] (byW l)
theorem wrS.ne{w:World}{b:Nat}{p q:Value}{l:List UInt8}(h:wrS w b p q l){k:Nat}(hk:Z3 q k):k≠b:=λe=>by
 subst e;have hk:q.ownBlock=some k:=hk;rcases h.own.2.2 with⟨hv,-⟩|⟨g,cap,cur,hv,-,hg,-⟩
 ·rw[hv]at hk;cases hk
 ·rw[hv]at hk;simp[Value.ownBlock]at hk;subst hk;have hb:=h.cells;rw[hb]at hg;simp at hg
def fpW(b:Nat)(q:Value):List Nat:=[b]++(q.ownBlock.toList++[])
def Zeh(w w':World)(b:Nat)(q:Value)(l:List UInt8):Prop :=
 ∃p' q',wrS w' b p' q' l/\Mod (fpW b q) w w'/\∀k,Z3 q' k->w.heap.size<=k\/k∈q.ownBlock.toList++[]
theorem Zsg(w:World)(b:Nat)(p q:Value)(l s:List UInt8)(h:wrS w b p q l)(hl:l.length+s.length<=140737488355328) : Calls Tryz.prog 116 #[.pointer (some ⟨b,0,none⟩),.string ⟨s.toArray⟩] w λe w'=>e=.returned (.tuple #[.int .i64 s.length,.nilIface])/\Zeh w w' b q (l++s):=by have hq:sc1 q=q:=h.own.reads.sc1;have hc:=h.cells;rw[h.ok.sc1,hq]at hc;refine(Zah 117 b p q [] _ s w Zjs (by decide) hc h.ok h.own (by simp only[byW,qy3];omega)).mono ?_;rintro e w' ⟨rfl,v',c1,c2,c3,c4⟩;have hv:sc1 v'=v':=c2.reads.sc1;refine⟨rfl,.pointer (some ⟨b,0,none⟩),v',⟨by rw[hv];exact c1,.inr rfl,by rw[Zsf];exact c2⟩,c3.mono λz hz=>.inl ?_,λk hk=>(c4 k hk).imp id λh=>by simpa using h⟩;simpa[fpW]using hz
theorem Zsh{w:World}{b:Nat}{p q:Value}{l:List UInt8}{J:List V}{vb vq vp:Nat}{rds:List Ent}{r:X}(h:wrS w b p q l)(hb:(J.getD vb (.i 0)).toN=b)(hq:(J.getD vq (.i 0)).toV=q) (hp:(J.getD vp (.i 0)).toV=p) (hr:(r.ev J).toR=byW l) (hd:∀e∈rds,e.holds J w/\e.wr=false/\∀k,e.fp J k->k≠b/\¬Z3 q k) : Rel ⟨fpW b q,w⟩ J (.row vq 5 [.int .u8] r::.cells vb 117 [.val (.var vp),.val (.var vq)]::rds) w:=by
 refine⟨Mod.refl _ _,qy2.2 ⟨?_,qy2.2 ⟨?_,λe he=>(hd e he).1⟩⟩,qy2.2 ⟨λ_ k hk=>.inr ?_,qy2.2 ⟨λ_ k hk=>.inr ?_,λe he hw=>?_⟩⟩,List.pairwise_cons.2 ⟨?_,List.pairwise_cons.2 ⟨?_,?_⟩⟩⟩
 ·simp only[Ent.holds];rw[hq,hr];exact h.own
 ·simp only[Ent.holds,List.map_cons,List.map_nil,Sc.ev,X.ev];rw[hb,hq,hp];exact h.cells
 ·have hk:Z3 (J.getD vq (.i 0)).toV k:=hk;rw[hq]at hk;have hk:q.ownBlock=some k:=hk;simp[fpW,hk]
 ·have hk:k=(J.getD vb (.i 0)).toN:=hk;rw[hb]at hk;simp[fpW,hk]
 ·rw[(hd e he).2.1]at hw;cases hw
 ·refine qy2.2 ⟨λ_ k h1 h2=>?_,λe he _ k h1 h2=>?_⟩
  ·have h1:Z3 (J.getD vq (.i 0)).toV k:=h1;have h2:k=(J.getD vb (.i 0)).toN:=h2;rw[hq]at h1;rw[hb]at h2;exact h.ne h1 h2
  ·have h1:Z3 (J.getD vq (.i 0)).toV k:=h1;rw[hq]at h1;exact((hd e he).2.2 k h2).2 h1
 ·intro e he _ k h1 h2;have h1:k=(J.getD vb (.i 0)).toN:=h1;rw[hb]at h1;exact((hd e he).2.2 k h2).1 h1
 ·exact Zp λe he=>(hd e he).2.1
theorem Zcy{w w':World}{b:Nat}{q:Value}{l:List UInt8}{J:List V}{hp:List Ent}(hr:Rel ⟨fpW b q,w⟩ J hp w'){p' q':Value}(h:wrS w' b p' q' l){vq ty:Nat}{ks:List Kd}{r:X}(hm:Ent.row vq ty ks r∈hp) (hq:(J.getD vq (.i 0)).toV=q'):Zeh w w' b q l:=by
 refine⟨p',q',h,hr.mod,λk hk=>?_⟩;rcases hr.own _ hm rfl k (by show Z3 (J.getD vq (.i 0)).toV k;rw[hq];exact hk)with h1|h1
 ·exact .inl h1
 ·rcases List.mem_cons.1 h1 with h2|h2
  ·exact absurd h2 (h.ne hk)
  ·exact .inr h2
theorem Zai(w:World)(b:Nat)(p q:Value)(l t:List UInt8)(h:wrS w b p q l)(hl:l.length+t.length<=100000000000000) : Calls Tryz.prog 113 #[.pointer (some ⟨b,0,none⟩),.string ⟨t.toArray⟩] w λe w'=>e=.returned (.tuple #[])/\Zeh w w' b q (l++txtB t):=by refine Z1 (Z5 (J:=[.n b,.v p,.v q,.r (byW l),.s t]) sxE_ok Tryz.func113 Z4o rfl rfl (Zsh h rfl rfl rfl rfl (by simp)) rfl rfl ?_) rfl;simp only[QQ,Nat.reduceAdd];refine⟨[.s (txtB t)],rfl,λ_ w' _=>Zg6 w' t (by omega),?_⟩;simp only[QQ,Nat.reduceAdd];intro w1 hr;refine(Zsg w1 b p q l (txtB t) ⟨hr.at_ 1 rfl,h.ok,hr.at_ 0 rfl⟩ (by rw[Zn];omega)).mono ?_;rintro e w2 ⟨rfl,p1,q1,s1,m1,f1⟩;refine⟨[.i _,.v .nilIface,.a Asrt.tt,.v p1,.v q1,.r (byW _)],rfl,rfl,m1,qy2.2 ⟨s1.cells,qy5 _⟩,qy2.2 ⟨⟨by simp only[Ent.holds,QQ,Nat.reduceAdd];trivial,λz hz=>by simp only[Ent.fp,QQ,Nat.reduceAdd]at hz;exact hz.elim⟩,qy2.2 ⟨⟨s1.own,λz hz=>(f1 z hz).imp id .inr⟩,qy5 _⟩⟩,Zcp rfl Z6,?_⟩;(try simp only[QQ,Nat.reduceAdd]);exact λw' hr=>⟨by trivial,Zcy hr ⟨hr.at_ 2 rfl,s1.ok,hr.at_ 1 rfl⟩ (qy10 _ (qy8 ..)) rfl⟩
theorem Zei(k:Nat)(ns:List Int)(i:Nat)(h:i<ns.length):((ns.take (i+1)).map (numB k)).flatten=((ns.take i).map (numB k)).flatten++numB k (ns.getD i 0):=by rw[List.take_add_one,qy1,qy7 h];simp only[Option.toList_some,Option.getD_some,List.map_append,List.map_cons,List.map_nil,List.flatten_append,List.flatten_cons,List.flatten_nil,List.append_nil]
theorem Zaj(k:Nat)(ns:List Int):((ns.map (numB k)).flatten).length=ns.length*k:=by
 induction ns with
 | nil=>simp
 | cons n ns ih=>simp[ih,Z8,Nat.succ_mul];omega
theorem Z8t(w:World)(b:Nat)(p q:Value)(l:List UInt8)(k:Nat)(lv:Value)(ns:List Int)(h:wrS w b p q l)(hk:k<=2)(hv:Z2d w lv ns)(ha:∀k,(ns.map Za).flatten≠[]/\Z3 lv k->k≠b/\¬Z3 q k) (hn:∀n∈ns,0<=n/\n<=65535) (hl:l.length<=10000000000000) (hl2:ns.length<=1000000000) : Calls Tryz.prog 114 #[.pointer (some ⟨b,0,none⟩),.int .i64 k,sc1 lv] w λe w'=>e=.returned (.tuple #[])/\Zeh w w' b q (l++(ns.map (numB k)).flatten):=by
  refine Z1 (Z5 (J:=[.n b,.v p,.v q,.r (byW l),.i k,.v lv,.r (ns.map Za)]) sxE_ok Tryz.func114 Z57 rfl rfl
    (Zsh h rfl rfl rfl rfl (qy2.2 ⟨⟨hv,rfl,ha⟩,qy5 _⟩)) rfl rfl ?_) rfl
  simp only[QQ,Nat.reduceAdd];refine⟨λvs=>∃(i:Nat) (p' q':Value),vs=[.i i,.v p',.v q',.r (byW (l++((ns.take i).map (numB k)).flatten))]/\i<=ns.length/\okp p' b,λvs=>ns.length - (vs.getD 0 (.i 0)).toI.toNat,⟨0,p,q,by simp,by omega,h.ok⟩,?_⟩;rintro _ - ⟨i,p',q',rfl,hi,hp'⟩;simp only[QQ,Nat.reduceAdd,qy3,qy4,gI0];refine⟨λh1=>⟨by omega,?_⟩,λh1 w' hr=>?_⟩
  . have hni:0<=ns.getD i 0/\ns.getD i 0<=65535:=by
      rw[qy1,qy7 (by omega)];exact hn _ (List.getElem_mem _)
    refine⟨[.s (numB k (ns.getD i 0))],rfl,λ_ w' _=>Z3y w' _ k (by omega) hni.1 (by omega),?_⟩;simp only[QQ,Nat.reduceAdd];intro w1 hr;have hlen:(l++((ns.take i).map (numB k)).flatten).length<=10000000000000+1000000000*2:=by
      rw[qy11,Zaj];have h1:(ns.take i).length<=1000000000:=by simp;omega
      have:=Nat.mul_le_mul h1 hk;omega
    refine(Zsg w1 b p' q' _ (numB k (ns.getD i 0)) ⟨hr.at_ 1 rfl,hp',hr.at_ 0 rfl⟩ (by rw[Z8];omega)).mono ?_;rintro e w2 ⟨rfl,p1,q1,s1,m1,f1⟩;refine⟨[.i _,.v .nilIface,.a Asrt.tt,.v p1,.v q1,.r (byW _)],rfl,rfl,m1,qy2.2 ⟨s1.cells,qy5 _⟩,qy2.2 ⟨⟨by simp only[Ent.holds,QQ,Nat.reduceAdd];trivial,λz hz=>by simp only[Ent.fp,QQ,Nat.reduceAdd]at hz;exact hz.elim⟩,qy2.2 ⟨⟨s1.own,λz hz=>(f1 z hz).imp id .inr⟩,qy5 _⟩⟩,Zcp rfl Z6,?_⟩;(try simp only[QQ,Nat.reduceAdd]);refine⟨by omega,by omega,⟨i+1,p1,q1,?_,by omega,s1.ok⟩,by omega⟩;rw[Zei k ns i (by omega),List.append_assoc];rfl
  . have:i=ns.length:=by omega
    subst this;rw[List.take_length]at hr;exact⟨by trivial,Zcy hr ⟨hr.at_ 1 rfl,hp',hr.at_ 0 rfl⟩ (qy8 ..) rfl⟩
structure ByteP(p:Pkt):Prop where
 kind:0<=p.kind/\p.kind<=15
 qos:0<=p.qos/\p.qos<=3
 id:0<=p.id/\p.id<=65535
 keep:0<=p.keep/\p.keep<=65535
 code:0<=p.code/\p.code<=65535
 asks:∀a∈p.asks,0<=a.2/\a.2<=65535
 codes:∀c∈p.codes,0<=c/\c<=65535
 small:SmallP p
 body:(Zu p).length<268435456
theorem ByteP.ask{p:Pkt}(h:ByteP p)(i:Nat):0<=(p.asks.getD i aD).2/\(p.asks.getD i aD).2<=65535:=by
 by_cases hi:i<p.asks.length
 ·rw[qy1,qy7 hi];exact h.asks _ (List.getElem_mem hi)
 ·rw[qy1,List.getElem?_eq_none (by omega)];decide
theorem Zmm{p:Pkt}(h:SmallP p):(Z1y p).length<=2000000000:=by
 have h1:=h.client;have h2:=h.topic;unfold Z1y;split
 ·simp only[qy11,Zn,Z8,List.length_cons,List.length_nil];omega
 ·split
  ·simp only[qy11,Z8];omega
  ·split
   ·rw[Zn];omega
   ·simp
def idP(p:Pkt):List UInt8:=if idB p=true then numB 2 p.id else[]
theorem Zsi(p:Pkt):(idP p).length<=2:=by unfold idP;split<;>simp[Z8]
def asB(p:Pkt)(i:Nat):List UInt8:=Z1y p++idP p++p.payload++((p.asks.take i).map (Z10 p.kind)).flatten
theorem Zsj{p:Pkt}(h:ByteP p)(i:Nat):(asB p i).length<268435456:=by
 refine Nat.lt_of_le_of_lt ?_ h.body;unfold Zu asB idP;have:((p.asks.take i).map (Z10 p.kind)).flatten.length<=(p.asks.map (Z10 p.kind)).flatten.length:=by
  conv=>rhs;rw[<- List.take_append_drop i p.asks,List.map_append,List.flatten_append,qy11]
  omega
 simp only[qy11];omega
theorem Zpc(p:Pkt):asB p 0=Z1y p++idP p++p.payload:=by simp[asB]
theorem Zi1(p:Pkt)(i:Nat)(h:i<p.asks.length):asB p (i+1)=asB p i++Z10 p.kind (p.asks.getD i aD):=by unfold asB;rw[List.take_add_one,qy1,qy7 h];simp only[Option.toList_some,Option.getD_some,List.map_append,List.map_cons,List.map_nil,List.flatten_append,List.flatten_cons,List.flatten_nil,List.append_nil,List.append_assoc]
theorem Zsk(p:Pkt):asB p p.asks.length++(p.codes.map (numB 1)).flatten=Zu p:=by rw[asB,List.take_length];rfl
section
variable (w:World) (b:Nat) (p:Pkt) (u v:Value)
set_option maxRecDepth 10000 in
theorem Zsl(p0 q0:Value)(hu:Z38 w u p.asks)(hv:Z2d w v p.codes)(hB:ByteP p)(hw:wrS w b p0 q0 []) (hua:∀k,(p.asks.map encA).flatten≠[]/\Z3 u k->k≠b/\¬Z3 q0 k) (hva:∀k,(p.codes.map Za).flatten≠[]/\Z3 v k->k≠b/\¬Z3 q0 k) : Calls Tryz.prog 81 #[.pointer (some ⟨b,0,none⟩),pV p u v] w λe w'=>e=.returned (.tuple #[])/\Zeh w w' b q0 (Zu p):=by
  refine Z1 (Z5 (J:=[.n b,.v p0,.v q0,.r (byW []),.i p.kind,.b p.dup,.b p.retain,.b p.clean,.b p.session,.i p.qos,.i p.id,.i p.keep,.i p.code,.s p.client,.s p.topic,.s p.payload,.v u,.r (p.asks.map encA),.v v,.r (p.codes.map Za)]) (sxE_ok.joins _) Tryz.func81 Z4n rfl rfl
    (Zsh hw rfl rfl rfl rfl (qy2.2 ⟨⟨hu,rfl,hua⟩,qy2.2 ⟨⟨hv,rfl,hva⟩,qy5 _⟩⟩)) rfl rfl ?_) rfl
  have hs:=hB.small;have hcl:=hs.client;have htp:=hs.topic;have hpl:=hs.payload;have hna:=hs.asks;have hnc:=hs.codes;have hhl:=Zmm hs;have hil:=Zsi p;simp only[QQ,Nat.reduceAdd];intro bc;refine⟨λvs=>∃p' q',vs=[.v p',.v q',.r (byW (Z1y p))]/\okp p' b,⟨λh1=>?_,λh1=>⟨λh2=>?_,λh2=>⟨λh3=>?_,λh3=>?_⟩⟩⟩,?_⟩
  . intro w1 hr;refine(Zai w1 b p0 q0 [] [77,81,84,84] ⟨hr.at_ 2 rfl,hw.ok,hr.at_ 1 rfl⟩ (by decide)).mono ?_;rintro e w2 ⟨rfl,p1,q1,s1,m1,f1⟩;refine⟨[.v p1,.v q1,.r (byW _)],rfl,rfl,m1,qy2.2 ⟨s1.cells,qy5 _⟩,qy2.2 ⟨⟨s1.own,λz hz=>(f1 z hz).imp id .inr⟩,qy5 _⟩,Z6,?_⟩;(try simp only[QQ,Nat.reduceAdd]);have go:∀n:Int,n=bit p.clean 2->Z1y p=[]++txtB [77,81,84,84]++(([4,n]:List Int).map (numB 1)).flatten++(([p.keep]:List Int).map (numB 2)).flatten++txtB p.client:=λn hn=>by
      rw[Z1y,if_pos h1,hn];simp
    refine⟨λhc=>?_,λhc=>?_⟩
    . intro v1 w3 hr;have hn4:∀n∈([4,2]:List Int),0<=n/\n<=65535:=by decide
      refine(Z8t w3 b p1 q1 _ 1 v1 [4,2] ⟨hr.at_ 3 rfl,s1.ok,hr.at_ 1 rfl⟩ (by omega) (owns.reads (hr.at_ 0 rfl)) (λk hk=>⟨λe=>Zv.disj hr.sep (i:=0) (j:=3) rfl rfl (by decide) (.inl rfl) (k:=k) hk.2 e,λhb=>Zv.disj hr.sep (i:=0) (j:=1) rfl rfl (by decide) (.inl rfl) (k:=k) hk.2 hb⟩) hn4 (by decide) (by decide)).mono ?_;have o1:=s1.ok;clear s1 m1 f1;rintro e w4 ⟨rfl,p1,q1,s1,m1,f1⟩;refine⟨[.v p1,.v q1,.r (byW _)],rfl,rfl,m1,qy2.2 ⟨s1.cells,qy5 _⟩,qy2.2 ⟨⟨s1.own,λz hz=>(f1 z hz).imp id .inr⟩,qy5 _⟩,Z6,?_⟩;(try simp only[QQ,Nat.reduceAdd]);intro v2 w5 hr;refine(Z8t w5 b p1 q1 _ 2 v2 [p.keep] ⟨hr.at_ 4 rfl,s1.ok,hr.at_ 1 rfl⟩ (by omega) (owns.reads (hr.at_ 0 rfl)) (λk hk=>⟨λe=>Zv.disj hr.sep (i:=0) (j:=4) rfl rfl (by decide) (.inl rfl) (k:=k) hk.2 e,λhb=>Zv.disj hr.sep (i:=0) (j:=1) rfl rfl (by decide) (.inl rfl) (k:=k) hk.2 hb⟩) (by simpa using hB.keep) (by decide) (by simp)).mono ?_;have o2:=s1.ok;clear s1 m1 f1;rintro e w6 ⟨rfl,p1,q1,s1,m1,f1⟩;refine⟨[.v p1,.v q1,.r (byW _)],rfl,rfl,m1,qy2.2 ⟨s1.cells,qy5 _⟩,qy2.2 ⟨⟨s1.own,λz hz=>(f1 z hz).imp id .inr⟩,qy5 _⟩,Z6,?_⟩;(try simp only[QQ,Nat.reduceAdd]);intro w7 hr;refine(Zai w7 b p1 q1 _ p.client ⟨hr.at_ 4 rfl,s1.ok,hr.at_ 0 rfl⟩ (by simp only[qy11,Zn,List.map_cons,List.map_nil,List.flatten_cons,List.flatten_nil,Z8,List.length_nil,List.length_cons];omega)).mono ?_;clear s1 m1 f1;rintro e w8 ⟨rfl,p1,q1,s1,m1,f1⟩;refine⟨[.v p1,.v q1,.r (byW _)],rfl,rfl,m1,qy2.2 ⟨s1.cells,qy5 _⟩,qy2.2 ⟨⟨s1.own,λz hz=>(f1 z hz).imp id .inr⟩,qy5 _⟩,Z6,?_⟩;(try simp only[QQ,Nat.reduceAdd]);exact⟨p1,q1,by rw[go 2 (by simp[bit,hc])];rfl,s1.ok⟩
    . intro v1 w3 hr;have hn4:∀n∈([4,0]:List Int),0<=n/\n<=65535:=by decide
      refine(Z8t w3 b p1 q1 _ 1 v1 [4,0] ⟨hr.at_ 3 rfl,s1.ok,hr.at_ 1 rfl⟩ (by omega) (owns.reads (hr.at_ 0 rfl)) (λk hk=>⟨λe=>Zv.disj hr.sep (i:=0) (j:=3) rfl rfl (by decide) (.inl rfl) (k:=k) hk.2 e,λhb=>Zv.disj hr.sep (i:=0) (j:=1) rfl rfl (by decide) (.inl rfl) (k:=k) hk.2 hb⟩) hn4 (by decide) (by decide)).mono ?_;clear s1 m1 f1;rintro e w4 ⟨rfl,p1,q1,s1,m1,f1⟩;refine⟨[.v p1,.v q1,.r (byW _)],rfl,rfl,m1,qy2.2 ⟨s1.cells,qy5 _⟩,qy2.2 ⟨⟨s1.own,λz hz=>(f1 z hz).imp id .inr⟩,qy5 _⟩,Z6,?_⟩;(try simp only[QQ,Nat.reduceAdd]);intro v2 w5 hr;refine(Z8t w5 b p1 q1 _ 2 v2 [p.keep] ⟨hr.at_ 4 rfl,s1.ok,hr.at_ 1 rfl⟩ (by omega) (owns.reads (hr.at_ 0 rfl)) (λk hk=>⟨λe=>Zv.disj hr.sep (i:=0) (j:=4) rfl rfl (by decide) (.inl rfl) (k:=k) hk.2 e,λhb=>Zv.disj hr.sep (i:=0) (j:=1) rfl rfl (by decide) (.inl rfl) (k:=k) hk.2 hb⟩) (by simpa using hB.keep) (by decide) (by simp)).mono ?_;clear s1 m1 f1;rintro e w6 ⟨rfl,p1,q1,s1,m1,f1⟩;refine⟨[.v p1,.v q1,.r (byW _)],rfl,rfl,m1,qy2.2 ⟨s1.cells,qy5 _⟩,qy2.2 ⟨⟨s1.own,λz hz=>(f1 z hz).imp id .inr⟩,qy5 _⟩,Z6,?_⟩;(try simp only[QQ,Nat.reduceAdd]);intro w7 hr;refine(Zai w7 b p1 q1 _ p.client ⟨hr.at_ 4 rfl,s1.ok,hr.at_ 0 rfl⟩ (by simp only[qy11,Zn,List.map_cons,List.map_nil,List.flatten_cons,List.flatten_nil,Z8,List.length_nil,List.length_cons];omega)).mono ?_;clear s1 m1 f1;rintro e w8 ⟨rfl,p1,q1,s1,m1,f1⟩;refine⟨[.v p1,.v q1,.r (byW _)],rfl,rfl,m1,qy2.2 ⟨s1.cells,qy5 _⟩,qy2.2 ⟨⟨s1.own,λz hz=>(f1 z hz).imp id .inr⟩,qy5 _⟩,Z6,?_⟩;(try simp only[QQ,Nat.reduceAdd]);exact⟨p1,q1,by rw[go 0 (by simp[bit,hc])];rfl,s1.ok⟩
  . have go:∀n:Int,n=bit p.session 1->Z1y p=[]++(([n,p.code]:List Int).map (numB 1)).flatten:=λn hn=>by
      rw[Z1y,if_neg h1,if_pos h2,hn];simp
    have one:∀n:Int,n=bit p.session 1->(0<=n/\n<=65535)->∀(v1:Value) (w3:World),Z2d w3 v1 [n,p.code]->wrS w3 b p0 q0 []->(∀k,(([n,p.code]:List Int).map Za).flatten≠[]/\Z3 v1 k->k≠b/\¬Z3 q0 k) ->
        Calls Tryz.prog 114 #[.pointer (some ⟨b,0,none⟩),.int .i64 1,sc1 v1] w3 λe w'=>e=.returned (.tuple #[])/\Zeh w3 w' b q0 (Z1y p):=λn hn h0 v1 w3 hv1 hw3 ha=>by
      have h9:=hB.code;rw[go n hn];exact Z8t w3 b p0 q0 _ 1 v1 [n,p.code] hw3 (by omega) hv1 ha (by simp;omega) (by decide) (by simp)
    have c1:p.session=true->(1:Int)=bit p.session 1:=λh=>by simp[bit,h]
    have c0:¬p.session=true->(0:Int)=bit p.session 1:=λh=>by simp[bit,h]
    refine⟨⟨λhc=>?_,λhc=>?_⟩,⟨λhc=>?_,λhc=>?_⟩⟩;all_goals
      intro v1 w3 hr;first
      | refine(one 1 (c1 hc) (by decide) v1 w3 (owns.reads (hr.at_ 0 rfl)) ⟨hr.at_ 3 rfl,hw.ok,hr.at_ 2 rfl⟩ (λk hk=>⟨λe=>Zv.disj hr.sep (i:=0) (j:=3) rfl rfl (by decide) (.inl rfl) (k:=k) hk.2 e,λhb=>Zv.disj hr.sep (i:=0) (j:=2) rfl rfl (by decide) (.inl rfl) (k:=k) hk.2 hb⟩)).mono ?_
      | refine(one 0 (c0 hc) (by decide) v1 w3 (owns.reads (hr.at_ 0 rfl)) ⟨hr.at_ 3 rfl,hw.ok,hr.at_ 2 rfl⟩ (λk hk=>⟨λe=>Zv.disj hr.sep (i:=0) (j:=3) rfl rfl (by decide) (.inl rfl) (k:=k) hk.2 e,λhb=>Zv.disj hr.sep (i:=0) (j:=2) rfl rfl (by decide) (.inl rfl) (k:=k) hk.2 hb⟩)).mono ?_
      rintro e w4 ⟨rfl,p1,q1,s1,m1,f1⟩;refine⟨[.v p1,.v q1,.r (byW _)],rfl,rfl,m1,qy2.2 ⟨s1.cells,qy5 _⟩,qy2.2 ⟨⟨s1.own,λz hz=>(f1 z hz).imp id .inr⟩,qy5 _⟩,Z6,?_⟩;(try simp only[QQ,Nat.reduceAdd]);exact⟨p1,q1,rfl,s1.ok⟩
  . intro w1 hr;refine(Zai w1 b p0 q0 [] p.topic ⟨hr.at_ 2 rfl,hw.ok,hr.at_ 1 rfl⟩ (by simp only[List.length_nil];omega)).mono ?_;rintro e w2 ⟨rfl,p1,q1,s1,m1,f1⟩;refine⟨[.v p1,.v q1,.r (byW _)],rfl,rfl,m1,qy2.2 ⟨s1.cells,qy5 _⟩,qy2.2 ⟨⟨s1.own,λz hz=>(f1 z hz).imp id .inr⟩,qy5 _⟩,Z6,?_⟩;(try simp only[QQ,Nat.reduceAdd]);exact⟨p1,q1,by rw[Z1y,if_neg h1,if_neg h2,if_pos h3],s1.ok⟩
  . exact⟨p0,q0,by rw[Z1y,if_neg h1,if_neg h2,if_neg h3],hw.ok⟩
  rintro _ - ⟨p1,q1,rfl,o1⟩;simp only[QQ,Nat.reduceAdd];refine⟨[.b (idB p)],rfl,λ_ w' hr=>Zp8 w' p u v (hr.at_ 3 rfl) (hr.at_ 4 rfl),?_⟩;simp only[QQ,Nat.reduceAdd];refine⟨λvs=>∃p' q',vs=[.v p',.v q',.r (byW (Z1y p++idP p))]/\okp p' b,⟨λh1=>?_,λh1=>?_⟩,?_⟩
  . intro v1 w3 hr;refine(Z8t w3 b p1 q1 _ 2 v1 [p.id] ⟨hr.at_ 3 rfl,o1,hr.at_ 2 rfl⟩ (by omega) (owns.reads (hr.at_ 0 rfl)) (λk hk=>⟨λe=>Zv.disj hr.sep (i:=0) (j:=3) rfl rfl (by decide) (.inl rfl) (k:=k) hk.2 e,λhb=>Zv.disj hr.sep (i:=0) (j:=2) rfl rfl (by decide) (.inl rfl) (k:=k) hk.2 hb⟩) (by simpa using hB.id) (by omega) (by simp)).mono ?_;rintro e w4 ⟨rfl,p1,q1,s1,m1,f1⟩;refine⟨[.v p1,.v q1,.r (byW _)],rfl,rfl,m1,qy2.2 ⟨s1.cells,qy5 _⟩,qy2.2 ⟨⟨s1.own,λz hz=>(f1 z hz).imp id .inr⟩,qy5 _⟩,Z6,?_⟩;(try simp only[QQ,Nat.reduceAdd]);exact⟨p1,q1,by rw[idP,if_pos h1];simp,s1.ok⟩
  . exact⟨p1,q1,by rw[idP,if_neg h1,List.append_nil],o1⟩
  rintro _ - ⟨p2,q2,rfl,o2⟩;simp only[QQ,Nat.reduceAdd];intro w1 hr;refine(Zsg w1 b p2 q2 _ p.payload ⟨hr.at_ 2 rfl,o2,hr.at_ 1 rfl⟩ (by simp only[qy11];omega)).mono ?_;rintro e w2 ⟨rfl,p1,q1,s1,m1,f1⟩;refine⟨[.i _,.v .nilIface,.a Asrt.tt,.v p1,.v q1,.r (byW _)],rfl,rfl,m1,qy2.2 ⟨s1.cells,qy5 _⟩,qy2.2 ⟨⟨by simp only[Ent.holds,QQ,Nat.reduceAdd];trivial,λz hz=>by simp only[Ent.fp,QQ,Nat.reduceAdd]at hz;exact hz.elim⟩,qy2.2 ⟨⟨s1.own,λz hz=>(f1 z hz).imp id .inr⟩,qy5 _⟩⟩,Zcp rfl Z6,?_⟩;(try simp only[QQ,Nat.reduceAdd]);refine⟨λvs=>∃(i:Nat) (p' q':Value),vs=[.i i,.v p',.v q',.r (byW (asB p i))]/\i<=p.asks.length/\okp p' b,λvs=>p.asks.length - (vs.getD 0 (.i 0)).toI.toNat,⟨0,p1,q1,by rw[Zpc];rfl,by omega,s1.ok⟩,?_⟩;clear s1 m1 f1 hr;rintro _ - ⟨i,p3,q3,rfl,hi,o3⟩;simp only[QQ,Nat.reduceAdd,qy3,qy4,gA0,gA1];have hal:=Zsj hB i;refine⟨λh1=>⟨by omega,λbx w3 hr=>?_⟩,λh1 w3 hr=>?_⟩
  . have hf:=hs.at_ i;have hq:=hB.ask i;refine(Zai w3 b p3 q3 _ (p.asks.getD i aD).1 ⟨hr.at_ 4 rfl,o3,hr.at_ 2 rfl⟩ (by omega)).mono ?_;rintro e w4 ⟨rfl,p1,q1,s1,m1,f1⟩;refine⟨[.v p1,.v q1,.r (byW _)],rfl,rfl,m1,qy2.2 ⟨s1.cells,qy5 _⟩,qy2.2 ⟨⟨s1.own,λz hz=>(f1 z hz).imp id .inr⟩,qy5 _⟩,Z6,?_⟩;(try simp only[QQ,Nat.reduceAdd]);refine⟨λhk=>?_,λhk=>?_⟩
    . intro v1 w5 hr;have e0:=hr.at_ 0 rfl;simp only[Ent.holds,QQ,Nat.reduceAdd,qy4,gA1]at e0;refine(Z8t w5 b p1 q1 _ 1 v1 [(p.asks.getD i aD).2] ⟨hr.at_ 5 rfl,s1.ok,hr.at_ 1 rfl⟩ (by omega) (owns.reads e0) (λk hk=>⟨λe=>Zv.disj hr.sep (i:=0) (j:=5) rfl rfl (by decide) (.inl rfl) (k:=k) hk.2 e,λhb=>Zv.disj hr.sep (i:=0) (j:=1) rfl rfl (by decide) (.inl rfl) (k:=k) hk.2 hb⟩) (by simpa using hq) (by simp only[qy11,Zn];omega) (by simp)).mono ?_;clear s1 m1 f1;rintro e w6 ⟨rfl,p1,q1,s1,m1,f1⟩;refine⟨[.v p1,.v q1,.r (byW _)],rfl,rfl,m1,qy2.2 ⟨s1.cells,qy5 _⟩,qy2.2 ⟨⟨s1.own,λz hz=>(f1 z hz).imp id .inr⟩,qy5 _⟩,Z6,?_⟩;(try simp only[QQ,Nat.reduceAdd]);refine⟨by omega,by omega,⟨i+1,p1,q1,?_,by omega,s1.ok⟩,by omega⟩;rw[Zi1 p i (by omega),Z10,if_pos hk];simp
    . refine⟨by omega,by omega,⟨i+1,p1,q1,?_,by omega,s1.ok⟩,by omega⟩;rw[Zi1 p i (by omega),Z10,if_neg hk,List.append_nil];rfl
  . have:i=p.asks.length:=by omega
    subst this;refine(Z8t w3 b p3 q3 _ 1 v p.codes ⟨hr.at_ 3 rfl,o3,hr.at_ 1 rfl⟩ (by omega) (hr.at_ 5 rfl) (λk hk=>⟨λe=>Zv.disj hr.sep (i:=5) (j:=3) rfl rfl (by decide) (.inr rfl) (k:=k) hk e,λhb=>Zv.disj hr.sep (i:=5) (j:=1) rfl rfl (by decide) (.inr rfl) (k:=k) hk hb⟩) hB.codes (by omega) (by omega)).mono ?_;rintro e w4 ⟨rfl,p1,q1,s1,m1,f1⟩;refine⟨[.v p1,.v q1,.r (byW _)],rfl,rfl,m1,qy2.2 ⟨s1.cells,qy5 _⟩,qy2.2 ⟨⟨s1.own,λz hz=>(f1 z hz).imp id .inr⟩,qy5 _⟩,Z6,?_⟩;(try simp only[QQ,Nat.reduceAdd]);intro w' hr;rw[Zsk]at hr;exact⟨by trivial,Zcy hr ⟨hr.at_ 3 rfl,s1.ok,hr.at_ 0 rfl⟩ (qy8 ..) rfl⟩
end
end Go.Proofs.Y
namespace Go.Proofs.Y
open Go.Sx
theorem Zsm(k:Int)(h:0<=k/\k<=15):IntKind.i64.wrap (k*2 ^ (Nat.min (Int.toNat 4) IntKind.i64.bits))=16*k:=by
 have:∀x:Fin 16,IntKind.i64.wrap ((x.val:Int)*2 ^ (Nat.min (Int.toNat 4) IntKind.i64.bits))=16*(x.val:Int):=by decide +kernel
 have:=this ⟨k.toNat,by omega⟩;simpa only[Int.toNat_of_nonneg h.1]using this
theorem Zmn(k:Int)(h:k=8\/k=10):Zw .or .i64 (16*k) 2=16*k+2:=by rcases h with rfl|rfl<;>decide +kernel
theorem Zsn(q:Int)(h:0<=q/\q<=3)(d r:Bool):Zw .or .i64 (16*3) (Zw .or .i64 (Zw .or .i64 (bit d 8) (IntKind.i64.wrap (q*2 ^ (Nat.min (Int.toNat 1) IntKind.i64.bits)))) (bit r 1))=16*3+(bit d 8+2*q+bit r 1):=by
 have:∀(x:Fin 4) (d r:Bool),Zw .or .i64 (16*3) (Zw .or .i64 (Zw .or .i64 (bit d 8) (IntKind.i64.wrap ((x.val:Int)*2 ^ (Nat.min (Int.toNat 1) IntKind.i64.bits)))) (bit r 1))=16*3+(bit d 8+2*(x.val:Int)+bit r 1):=by decide +kernel
 have:=this ⟨q.toNat,by omega⟩ d r;simpa only[Int.toNat_of_nonneg h.1]using this
section
variable (w:World) (p:Pkt) (u v:Value)
theorem Zpd(hu:Z38 w u p.asks)(hv:Z2d w v p.codes)(hk:0<=p.kind/\p.kind<=15)(hq:0<=p.qos/\p.qos<=3):Calls Tryz.prog 83 #[pV p u v] w λe w'=>e=.returned (.int .i64 (Zh p))/\Mod [] w w':=by
 refine Z1 (Z5 (J:=[.i p.kind,.b p.dup,.b p.retain,.b p.clean,.b p.session,.i p.qos,.i p.id,.i p.keep,.i p.code,.s p.client,.s p.topic,.s p.payload,.v u,.r (p.asks.map encA),.v v,.r (p.codes.map Za)]) sxE_ok Tryz.func83 Z7w rfl rfl (Rel.start2 (by simp[Ent.holds,Ent.wr,hu,hv,X.ev])) rfl rfl ?_) rfl;simp only[QQ,Nat.reduceAdd];rw[Zsm _ hk];intro b;have pub:p.kind=3->∀d r:Int,d=bit p.dup 8->r=bit p.retain 1->Value.int .i64 (Zw .or .i64 (16*p.kind) (Zw .or .i64 (Zw .or .i64 d (IntKind.i64.wrap (p.qos*2 ^ (Nat.min (Int.toNat 1) IntKind.i64.bits)))) r))=.int .i64 (Zh p):=λh d r hd hr=>by rw[hd,hr,h,Zsn _ hq,Zh,if_pos h,h]
 have d1:p.dup=true->(8:Int)=bit p.dup 8:=λh=>by simp[bit,h]
 have d0:¬p.dup=true->(0:Int)=bit p.dup 8:=λh=>by simp[bit,h]
 have r1:p.retain=true->(1:Int)=bit p.retain 1:=λh=>by simp[bit,h]
 have r0:¬p.retain=true->(0:Int)=bit p.retain 1:=λh=>by simp[bit,h]
 refine⟨λh=>?_,λh=>⟨λh1 w' hr=>⟨?_,hr.mod⟩,λh1=>⟨λh2 w' hr=>⟨?_,hr.mod⟩,λh2 w' hr=>⟨?_,hr.mod⟩⟩⟩⟩
 ·have pub:=pub h;repeat' (first|(intro _)|(apply And.intro))
  all_goals (first|exact Rel.mod ‹_› | exact congrArg _ (pub _ _ (d1 ‹_›) (r1 ‹_›))|exact congrArg _ (pub _ _ (d1 ‹_›) (r0 ‹_›))|exact congrArg _ (pub _ _ (d0 ‹_›) (r1 ‹_›))|exact congrArg _ (pub _ _ (d0 ‹_›) (r0 ‹_›)))
 ·rw[Zmn _ (.inl h1),Zh,if_neg h,if_pos (.inl h1)]
 ·rw[Zmn _ (.inr h2),Zh,if_neg h,if_pos (.inr h2)]
 ·rw[Zh,if_neg h,if_neg (by omega),Int.add_zero]
theorem Zej{p:Pkt}(hk:0<=p.kind/\p.kind<=15)(hq:0<=p.qos/\p.qos<=3):0<=Zh p/\Zh p<1000:=by
 unfold Zh bit;split
 ·split<;>split<;>omega
 ·split<;>omega
theorem Z7e(hu:Z38 w u p.asks)(hv:Z2d w v p.codes)(hB:ByteP p):Calls Tryz.prog 42 #[pV p u v] w λe w'=>e=.returned (.string ⟨(Zi p).toArray⟩)/\Mod [] w w':=by
  refine Z1 (Zlz (J:=[.i p.kind,.b p.dup,.b p.retain,.b p.clean,.b p.session,.i p.qos,.i p.id,.i p.keep,.i p.code,.s p.client,.s p.topic,.s p.payload,.v u,.r (p.asks.map encA),.v v,.r (p.codes.map Za)]) sxE_ok Tryz.func42 Z81 rfl rfl (Rel.start2 (by simp[Ent.holds,Ent.wr,hu,hv,X.ev])) rfl rfl ?_) rfl;have hb:=hB.body;have hf:=Zej hB.kind hB.qos;simp only[QQ,Nat.reduceAdd];intro bc bw w1 hr;refine(Zsl w1 bw p u v (.pointer none) (.slice none 0 0) (hr.at_ 2 rfl) (hr.at_ 3 rfl) hB ⟨hr.at_ 0 rfl,.inl rfl,⟨by simp[byW],World.ownsRow_nil _ _ _ _⟩⟩
    (λk hk=>⟨λe=>Zv.disj hr.sep (i:=2) (j:=0) rfl rfl (by decide) (.inr rfl) (k:=k) hk e,λhb=>by cases hb⟩)
    (λk hk=>⟨λe=>Zv.disj hr.sep (i:=3) (j:=0) rfl rfl (by decide) (.inr rfl) (k:=k) hk e,λhb=>by cases hb⟩)).mono ?_
  rintro e w2 ⟨rfl,p1,q1,s1,m1,f1⟩;refine⟨[.v p1,.v q1,.r (byW _)],rfl,rfl,m1,qy2.2 ⟨s1.cells,qy5 _⟩,qy2.2 ⟨⟨s1.own,λz hz=>.inl ((f1 z hz).resolve_right (by simp[Value.ownBlock]))⟩,qy5 _⟩,Z6,?_⟩;simp only[QQ,Nat.reduceAdd];refine⟨[.i (Zh p)],rfl,λ_ w' hr=>Zpd w' p u v (hr.at_ 3 rfl) (hr.at_ 4 rfl) hB.kind hB.qos,?_⟩;simp only[QQ,Nat.reduceAdd];refine⟨[.s (numB 1 (Zh p))],rfl,λ_ w' _=>Z3y w' _ 1 (by omega) (by omega) (by omega),?_⟩;simp only[QQ,Nat.reduceAdd];intro w3 hr;have hq1:=s1.own.reads.sc1;have hc:=hr.at_ 1 rfl;simp only[Ent.holds,QQ,Nat.reduceAdd,s1.ok.sc1,hq1]at hc;have hlen:(byW (Zu p)).length=(Zu p).length:=by simp[byW]
  refine(Zse 117 bw p1 q1 [] (byW (Zu p)) w3 hc (hr.at_ 0 rfl)).mono ?_;rintro e w4 ⟨rfl,rfl⟩;rw[hlen];have cells1:=hr.at_ 1 rfl;have own1:=hr.at_ 0 rfl;refine⟨[.i ((Zu p).length:Nat),.v p1,.v q1,.r (byW (Zu p))],rfl,rfl,Mod.refl _ _,qy2.2 ⟨cells1,qy5 _⟩,qy2.2 ⟨⟨own1,λz hz=>.inr (.inr ?_)⟩,qy5 _⟩,Z6,?_⟩
  . have hz:q1.ownBlock=some z:=hz;simp only[Z6s,List.flatMap_cons,List.flatMap_nil,List.append_nil,QQ,Nat.reduceAdd];rw[hz];simp
  simp only[QQ,Nat.reduceAdd];refine⟨[.s (lngB 3 (Zu p).length)],rfl,λ_ w' _=>Zg4 w' 3 _ (by omega) (by show _<268435456;exact hb),?_⟩;simp only[QQ,Nat.reduceAdd,qy11,Z8];have hll:(lngB 3 (Zu p).length).length<=4:=Z9c 3 _;refine⟨by omega,?_⟩;intro w5 hr;have hc:=hr.at_ 1 rfl;simp only[Ent.holds,QQ,Nat.reduceAdd,s1.ok.sc1,hq1]at hc;refine(Zjr 117 bw p1 q1 [] (Zu p) w5 hc (hr.at_ 0 rfl)).mono ?_;rintro e w6 ⟨rfl,hm⟩;have hjq:bw ∉ q1.ownBlock.toList:=λhmem=>by
    have h9:q1.ownBlock=some bw:=by simpa using hmem
    exact s1.ne (show Z3 q1 bw from h9) rfl
  refine⟨[.s (Zu p),.v p1,.v q1],rfl,rfl,?_,?_,λz hz=>absurd hz List.not_mem_nil,Z7,?_⟩
  . refine hm.mono λz hz=>.inl ?_;simp only[Zgu,Z6s,List.map_cons,List.map_nil,List.flatMap_cons,List.flatMap_nil,List.append_nil,QQ,Nat.reduceAdd];exact qy10 _ hz
  . refine qy2.2 ⟨?_,qy5 _⟩;simp only[Ent.holds,QQ,Nat.reduceAdd,s1.ok.sc1,hq1];rw[hm.block bw (Array.getElem?_eq_some_iff.1 hc).1 hjq];exact hc
  . simp only[QQ,Nat.reduceAdd,qy11,Z8];exact⟨by omega,λw' hr=>⟨by rw[Zi],hr.mod⟩⟩
theorem Zso{p:Pkt}(h:chkP p=0)(hs:SmallP p):ByteP p:=by obtain⟨hf,hl⟩:=Zhz h;have hk:=hf.kind;simp only[Z1h,decide_eq_true_eq]at hk;have hq:=hf.qos;have hi:=hf.id;have hke:=hf.keep;have hc:=hf.code;exact⟨by omega,by omega,by omega,by omega,by omega,λa ha=>by have:=hf.asks a ha;omega,λc hc=>by have:=hf.codes c hc;omega,hs,by omega⟩
theorem Zek(hu:Z38 w u p.asks)(hv:Z2d w v p.codes)(hs:SmallP p):Calls Tryz.prog 21 #[pV p u v] w λe w'=>e=.returned (.tuple #[.string ⟨(if chkP p=0 then Zi p else[]).toArray⟩,.int .i64 (chkP p)])/\Mod [] w w':=by refine Z1 (Z5 (J:=[.i p.kind,.b p.dup,.b p.retain,.b p.clean,.b p.session,.i p.qos,.i p.id,.i p.keep,.i p.code,.s p.client,.s p.topic,.s p.payload,.v u,.r (p.asks.map encA),.v v,.r (p.codes.map Za)]) sxE_ok Tryz.func21 Z72 rfl rfl (Rel.start2 (by simp[Ent.holds,Ent.wr,hu,hv,X.ev])) rfl rfl ?_) rfl;simp only[QQ,Nat.reduceAdd];intro bc;refine⟨[.i (chkP p)],rfl,λ_ w' hr=>Z5r w' p u v (hr.at_ 1 rfl) (hr.at_ 2 rfl) hs,?_⟩;simp only[QQ,Nat.reduceAdd];refine⟨λh w' hr=>⟨by rw[if_neg h],hr.mod⟩,λh=>?_⟩;have h:=qy9.1 h;refine⟨[.s (Zi p)],rfl,λ_ w' hr=>Z7e w' p u v (hr.at_ 1 rfl) (hr.at_ 2 rfl) (Zso h hs),?_⟩;simp only[QQ,Nat.reduceAdd];exact λw' hr=>⟨by rw[if_pos h,h],hr.mod⟩
end
section
variable (w:World) (p q:Pkt) (u v x y:Value)
theorem Zsp{a b:List Ak}(hl:a.length=b.length)(h:∀i,i<a.length->a.getD i aD=b.getD i aD):a=b:=by refine List.ext_getElem hl λi h1 h2=>?_;have:=h i h1;rw[qy1,qy1,qy7 h1,qy7 h2]at this;exact this
theorem Zpe{a b:List Int}(hl:a.length=b.length)(h:∀i,i<a.length->a.getD i 0=b.getD i 0):a=b:=by refine List.ext_getElem hl λi h1 h2=>?_;have:=h i h1;rw[qy1,qy1,qy7 h1,qy7 h2]at this;exact this
theorem Z3z(hu:Z38 w u p.asks)(hv:Z2d w v p.codes)(hx:Z38 w x q.asks)(hy:Z2d w y q.codes)(hs:SmallP p) : Calls Tryz.prog 13 #[pV p u v,pV q x y] w λe w'=>e=.returned (.bool (decide (p=q)))/\Mod [] w w':=by
 refine Z1 (Z5 (J:=[.i p.kind,.b p.dup,.b p.retain,.b p.clean,.b p.session,.i p.qos,.i p.id,.i p.keep,.i p.code,.s p.client,.s p.topic,.s p.payload,.v u,.r (p.asks.map encA),.v v,.r (p.codes.map Za),.i q.kind,.b q.dup,.b q.retain,.b q.clean,.b q.session,.i q.qos,.i q.id,.i q.keep,.i q.code,.s q.client,.s q.topic,.s q.payload,.v x,.r (q.asks.map encA),.v y,.r (q.codes.map Za)]) sxE_ok Tryz.func13 Z35 rfl rfl (Rel.start2 (by simp[Ent.holds,Ent.wr,hu,hv,hx,hy,X.ev])) rfl rfl ?_) rfl;have h4:=hs.asks;have h5:=hs.codes;simp only[QQ,Nat.reduceAdd,qy3];intro b1 b2;refine⟨λh w' hr=>⟨?_,hr.mod⟩,λh=>?_⟩
 ·have:¬p=q:=λe=>by subst e;simp at h
  simp[this]
 simp only[not_or,qy9]at h;obtain⟨⟨⟨⟨⟨⟨⟨⟨⟨⟨⟨⟨⟨e1,e2⟩,e3⟩,e4⟩,e5⟩,e6⟩,e7⟩,e8⟩,e9⟩,e10⟩,e11⟩,e12⟩,e13⟩,e14⟩:=h;refine⟨λvs=>∃(i:Nat) (b:V),vs=[b,.i i]/\i<=p.asks.length/\∀j,j<i->p.asks.getD j aD=q.asks.getD j aD,λvs=>p.asks.length - (vs.getD 1 (.i 0)).toI.toNat,⟨0,_,rfl,by omega,by omega⟩,?_⟩;rintro _ - ⟨i,vb,rfl,hi,hg⟩;simp only[QQ,Nat.reduceAdd,qy3,qy4,gA0,gA1];refine⟨λh2=>⟨by omega,by omega,λh3 w' hr=>⟨?_,hr.mod⟩,λh3=>⟨by omega,by omega,⟨i+1,vb,rfl,by omega,λj hj=>?_⟩,by omega⟩⟩,λh2=>?_⟩
 ·have:¬p=q:=λe=>h3 (by subst e;exact⟨rfl,rfl⟩);simp[this]
 ·by_cases hji:j=i
  ·subst hji;have h3:=qy9.1 h3;exact Prod.ext h3.1 h3.2
  ·exact hg j (by omega)
 have ea:=Zsp (a:=p.asks) (b:=q.asks) (by omega) (λj hj=>hg j (by omega));refine⟨λvs=>∃(i:Nat) (b:V),vs=[b,.i i]/\i<=p.codes.length/\∀j,j<i->p.codes.getD j 0=q.codes.getD j 0,λvs=>p.codes.length - (vs.getD 1 (.i 0)).toI.toNat,⟨0,_,rfl,by omega,by omega⟩,?_⟩;rintro _ - ⟨k,vc,rfl,hk,hgk⟩;simp only[QQ,Nat.reduceAdd,qy3,qy4,gI0];refine⟨λh3=>⟨by omega,by omega,λh4 w' hr=>⟨?_,hr.mod⟩,λh4=>⟨by omega,by omega,⟨k+1,vc,rfl,by omega,λj hj=>?_⟩,by omega⟩⟩,λh3 w' hr=>⟨?_,hr.mod⟩⟩
 ·have:¬p=q:=λe=>h4 (by subst e;rfl);simp[this]
 ·by_cases hjk:j=k
  ·subst hjk;exact qy9.1 h4
  ·exact hgk j (by omega)
 ·have ec:=Zpe (a:=p.codes) (b:=q.codes) (by omega) (λj hj=>hgk j (by omega));have:p=q:=by
   cases p;cases q;simp only at *;simp_all
  simp[this]
end
end Go.Proofs.Y
namespace Go.Proofs.Y
open Go.Sx
theorem Z1e(s:List UInt8)(k a:Nat)(b:Bool)(ha:a<=s.length):0<=(rdN s k a b).1/\(rdN s k a b).1<pw k/\a<=(rdN s k a b).2.1/\(rdN s k a b).2.1<=s.length /\ (b=true->(rdN s k a b).2.2=true)/\((rdN s k a b).2.2=false->b=false/\(rdN s k a b).2.1=a+k):=by
 have hp:=Zqo k;unfold rdN;split
 ·have:=Zhm ((s.drop a).take k) 0;have e:((s.drop a).take k).length=k:=by simp;omega
  rw[e]at this;refine⟨by simp only;omega,by simp only;omega,by simp only;omega,by simp only;omega,λh=>h,λh=>⟨h,rfl⟩⟩
 ·exact⟨by simp only;omega,by simp only;omega,ha,Nat.le_refl _,λ_=>rfl,λh=>by cases h⟩
theorem Z3o(s:List UInt8)(a:Nat)(b:Bool)(ha:a<=s.length):a<=(rdT s a b).2.1/\(rdT s a b).2.1<=s.length/\(rdT s a b).1.length<=(rdT s a b).2.1 - a /\ (b=true->(rdT s a b).2.2=true)/\((rdT s a b).2.2=false->b=false/\(rdT s a b).2.1=a+2+(rdT s a b).1.length):=by
 unfold rdT;split
 ·refine⟨by simp only;omega,by simp only;omega,by simp;omega,λh=>h,λh=>⟨h,by simp;omega⟩⟩
 ·exact⟨Nat.le_refl _,ha,by simp,λ_=>rfl,λh=>by cases h⟩
theorem Zi2(s:List UInt8)(k:Int)(a:Nat)(b:Bool)(ha:a<=s.length):a<=(Zr s k a b).2.1/\(Zr s k a b).2.1<=s.length/\(Zr s k a b).1.1.length<=s.length/\0<=(Zr s k a b).1.2/\(Zr s k a b).1.2<256 /\ (Z10 k (Zr s k a b).1).length+a<=(Zr s k a b).2.1+3/\((Zr s k a b).2.2=false->b=false/\(Z10 k (Zr s k a b).1).length+a=(Zr s k a b).2.1/\a+2<=(Zr s k a b).2.1):=by
 obtain⟨t1,t2,t3,t4,t5⟩:=Z3o s a b ha;by_cases hk:k=8
 ·obtain⟨n1,n2,n3,n4,n5,n6⟩:=Z1e s 1 (rdT s a b).2.1 (rdT s a b).2.2 t2;have n2:(rdN s 1 (rdT s a b).2.1 (rdT s a b).2.2).1<256:=n2;have hl:∀(x:List UInt8) (n:Int),(Z10 k (x,n)).length=x.length+3:=λx n=>by simp[Z10,hk,Zn,Z8]
  rw[Zr,if_pos hk];simp only[hl];refine⟨by omega,n4,by omega,n1,n2,?_,λh=>?_⟩
  ·by_cases hs:(rdT s a b).2.2=true
   ·omega
   ·have:=t5 (by simpa using hs);omega
  ·obtain⟨h1,h2⟩:=n6 h;obtain⟨h3,h4⟩:=t5 h1;exact⟨h3,by omega,by omega⟩
 ·have hl:∀(x:List UInt8) (n:Int),(Z10 k (x,n)).length=x.length+2:=λx n=>by simp[Z10,hk,Zn]
  rw[Zr,if_neg hk];simp only[hl];refine⟨t1,t2,by omega,by omega,by omega,by omega,λh=>?_⟩;obtain⟨h3,h4⟩:=t5 h;exact⟨h3,by omega,by omega⟩
theorem Z39{s:List UInt8}{a a':Nat}{b b':Bool}(h:a<s.length)(hb:b=false)(hs:b'=false->a+1<=a'):Zf s a' b'<Zf s a b:=by
 subst hb;unfold Zf;cases b' with
 | true=>simp;omega
 | false=>have:=hs rfl;simp;omega
theorem Zi3{s:List UInt8}{k:Int}{a:Nat}{b:Bool}(h:a<s.length)(hb:b=false):Zf s (Zr s k a b).2.1 (Zr s k a b).2.2<Zf s a b :=
 Z39 h hb λh2=>by have:=((Zi2 s k a b (by omega)).2.2.2.2.2.2 h2).2.2;omega
theorem Zi4{s:List UInt8}{a:Nat}{b:Bool}(h:a<s.length)(hb:b=false):Zf s (rdN s 1 a b).2.1 (rdN s 1 a b).2.2<Zf s a b :=
 Z39 h hb λh2=>by have:=((Z1e s 1 a b (by omega)).2.2.2.2.2 h2).2;omega
theorem Z4v{s:List UInt8}{a:Nat}{b:Bool}(h:Zf s a b=0):¬(a<s.length/\b=false):=by
 unfold Zf at h;split at h
 ·rename_i hb;exact λhh=>by rw[hb]at hh;cases hh.2
 ·omega
theorem Zel{s:List UInt8}{k:Int}:∀(f g a:Nat) (b:Bool) (l:List Ak),Zf s a b<=f->Zf s a b<=g->rdAs s k f a b l=rdAs s k g a b l
 | 0,0,a,b,l,_,_=>rfl
 | 0,g+1,a,b,l,h,_=>by rw[rdAs,rdAs,if_neg (Z4v (by omega))]
 | f+1,0,a,b,l,_,h=>by rw[rdAs,rdAs,if_neg (Z4v (by omega))]
 | f+1,g+1,a,b,l,h1,h2=>by
  rw[rdAs,rdAs];split
  ·rename_i h;have:=Zi3 (k:=k) h.1 h.2;exact Zel f g _ _ _ (by omega) (by omega)
  ·rfl
theorem Zem{s:List UInt8}:∀(f g a:Nat) (b:Bool) (l:List Int),Zf s a b<=f->Zf s a b<=g->rdCs s f a b l=rdCs s g a b l
 | 0,0,a,b,l,_,_=>rfl
 | 0,g+1,a,b,l,h,_=>by rw[rdCs,rdCs,if_neg (Z4v (by omega))]
 | f+1,0,a,b,l,_,h=>by rw[rdCs,rdCs,if_neg (Z4v (by omega))]
 | f+1,g+1,a,b,l,h1,h2=>by
  rw[rdCs,rdCs];split
  ·rename_i h;have:=Zi4 h.1 h.2;exact Zem f g _ _ _ (by omega) (by omega)
  ·rfl
theorem Zak{s:List UInt8}{k:Int}{a:Nat}{b:Bool}{l:List Ak}(h:a<s.length/\b=false) : rdAs s k (Zf s a b) a b l=rdAs s k (Zf s (Zr s k a b).2.1 (Zr s k a b).2.2) (Zr s k a b).2.1 (Zr s k a b).2.2 (l++[(Zr s k a b).1]):=by
 have h1:=Zi3 (k:=k) h.1 h.2;obtain⟨f,hf⟩:∃f,Zf s a b=f+1:=⟨Zf s a b - 1,by omega⟩
 rw[hf,rdAs,if_pos h];exact Zel _ _ _ _ _ (by omega) (Nat.le_refl _)
theorem Zal{s:List UInt8}{a:Nat}{b:Bool}{l:List Int}(h:a<s.length/\b=false) : rdCs s (Zf s a b) a b l=rdCs s (Zf s (rdN s 1 a b).2.1 (rdN s 1 a b).2.2) (rdN s 1 a b).2.1 (rdN s 1 a b).2.2 (l++[(rdN s 1 a b).1]):=by
 have h1:=Zi4 h.1 h.2;obtain⟨f,hf⟩:∃f,Zf s a b=f+1:=⟨Zf s a b - 1,by omega⟩
 rw[hf,rdCs,if_pos h];exact Zem _ _ _ _ _ (by omega) (Nat.le_refl _)
theorem Z9g{s:List UInt8}{k:Int}{f a:Nat}{b:Bool}{l:List Ak}(h:¬(a<s.length/\b=false)):rdAs s k f a b l=(l,a,b):=by
 cases f with
 | zero=>rfl
 | succ f=>rw[rdAs,if_neg h]
theorem Zcz{s:List UInt8}{f a:Nat}{b:Bool}{l:List Int}(h:¬(a<s.length/\b=false)):rdCs s f a b l=(l,a,b):=by
 cases f with
 | zero=>rfl
 | succ f=>rw[rdCs,if_neg h]
abbrev totA(k:Int)(l:List Ak):Nat:=(l.map (Z10 k)).flatten.length
theorem Zen(k:Int)(l:List Ak)(x:Ak):totA k (l++[x])=totA k l+(Z10 k x).length:=by simp[totA]
theorem Zmo{s:List UInt8}{k:Int}:∀(f a:Nat) (b:Bool) (l:List Ak),a<=s.length->a<=(rdAs s k f a b l).2.1/\(rdAs s k f a b l).2.1<=s.length /\ (∀x∈(rdAs s k f a b l).1,x∈l\/(x.1.length<=s.length/\0<=x.2/\x.2<256))/\totA k (rdAs s k f a b l).1+a<=totA k l+(rdAs s k f a b l).2.1+3
 | 0,a,b,l,h=>⟨Nat.le_refl _,h,λx hx=>.inl hx,by simp only[rdAs];omega⟩
 | f+1,a,b,l,h=>by
  rw[rdAs];split
  ·obtain⟨h1,h2,h3,h4,h5,h6,h7⟩:=Zi2 s k a b h;by_cases hb:(Zr s k a b).2.2=true
   ·rw[Z9g (by rw[hb];simp)];refine⟨h1,h2,λx hx=>?_,?_⟩
    ·rcases qy13.1 hx with hx|hx
     ·exact .inl hx
     ·rw[qy12.1 hx];exact .inr ⟨h3,h4,h5⟩
    ·simp only[Zen];omega
   ·have h7:=h7 (by simpa using hb);obtain⟨i1,i2,i3,i4⟩:=Zmo f (Zr s k a b).2.1 (Zr s k a b).2.2 (l++[(Zr s k a b).1]) h2;refine⟨by omega,i2,λx hx=>?_,?_⟩
    ·rcases i3 x hx with hx|hx
     ·rcases qy13.1 hx with hx|hx
      ·exact .inl hx
      ·rw[qy12.1 hx];exact .inr ⟨h3,h4,h5⟩
     ·exact .inr hx
    ·rw[Zen]at i4;omega
  ·exact⟨Nat.le_refl _,h,λx hx=>.inl hx,by simp only;omega⟩
theorem Zmp{s:List UInt8}:∀(f a:Nat) (b:Bool) (l:List Int),a<=s.length->a<=(rdCs s f a b l).2.1/\(rdCs s f a b l).2.1<=s.length /\ (∀x∈(rdCs s f a b l).1,x∈l\/(0<=x/\x<256))/\(rdCs s f a b l).1.length+a<=l.length+(rdCs s f a b l).2.1+1
 | 0,a,b,l,h=>⟨Nat.le_refl _,h,λx hx=>.inl hx,by simp only[rdCs];omega⟩
 | f+1,a,b,l,h=>by
  rw[rdCs];split
  ·obtain⟨h1,h2,h3,h4,h5,h6⟩:=Z1e s 1 a b h;have h2:(rdN s 1 a b).1<256:=h2;by_cases hb:(rdN s 1 a b).2.2=true
   ·rw[Zcz (by rw[hb];simp)];refine⟨h3,h4,λx hx=>?_,?_⟩
    ·rcases qy13.1 hx with hx|hx
     ·exact .inl hx
     ·rw[qy12.1 hx];exact .inr ⟨h1,h2⟩
    ·simp only[qy11,List.length_cons,List.length_nil];omega
   ·have h7:=(h6 (by simpa using hb)).2;obtain⟨i1,i2,i3,i4⟩:=Zmp f (rdN s 1 a b).2.1 (rdN s 1 a b).2.2 (l++[(rdN s 1 a b).1]) h4;refine⟨by omega,i2,λx hx=>?_,?_⟩
    ·rcases i3 x hx with hx|hx
     ·rcases qy13.1 hx with hx|hx
      ·exact .inl hx
      ·rw[qy12.1 hx];exact .inr ⟨h1,h2⟩
     ·exact .inr hx
    ·simp only[qy11,List.length_cons,List.length_nil]at i4;omega
  ·exact⟨Nat.le_refl _,h,λx hx=>.inl hx,by simp only;omega⟩
structure BdP(s:List UInt8)(p:Pkt):Prop where
 kind:0<=p.kind/\p.kind<=15
 qos:0<=p.qos/\p.qos<=3
 id:0<=p.id/\p.id<=65535
 keep:0<=p.keep/\p.keep<=65535
 code:0<=p.code/\p.code<=65535
 asks:∀a∈p.asks,a.1.length<=s.length/\0<=a.2/\a.2<256
 codes:∀c∈p.codes,0<=c/\c<256
 client:p.client.length<=s.length
 topic:p.topic.length<=s.length
 payload:p.payload.length<=s.length
 total:totA p.kind p.asks<=s.length+3
 ncodes:p.codes.length<=s.length+1
theorem Zam(k:Int):∀l:List Ak,l.length<=totA k l
 | []=>by simp
 | x::l=>by
  have:=Zam k l;have h2:2<=(Z10 k x).length:=by unfold Z10;rw[qy11,Zn];omega
  simp only[totA,List.map_cons,List.flatten_cons,qy11,List.length_cons]at *;omega
theorem BdP.small{s:List UInt8}{p:Pkt}(h:BdP s p)(hs:s.length<=60000000):SmallP p:=by have h1:=h.client;have h2:=h.topic;have h3:=h.payload;have h4:=h.total;have h5:=h.ncodes;have h6:=Zam p.kind p.asks;exact⟨by omega,by omega,by omega,by omega,by omega,λa ha=>by have:=(h.asks a ha).1;omega⟩
theorem BdP.byte{s:List UInt8}{p:Pkt}(h:BdP s p)(hs:s.length<=60000000):ByteP p:=by
 refine⟨h.kind,h.qos,h.id,h.keep,h.code,λa ha=>by have:=h.asks a ha;omega,λc hc=>by have:=h.codes c hc;omega,h.small hs,?_⟩;have h1:=h.client;have h2:=h.topic;have h3:=h.payload;have h4:=h.total;have h5:=h.ncodes;have e1:(Z1y p).length<=s.length+64:=by
  unfold Z1y;split
  ·simp only[qy11,Zn,Z8,List.length_cons,List.length_nil];omega
  ·split
   ·simp only[qy11,Z8];omega
   ·split
    ·rw[Zn];omega
    ·simp
 have e2:(if idB p=true then numB 2 p.id else[]).length<=2:=by
  split
  ·rw[Z8];omega
  ·simp
 have e4:=Zaj 1 p.codes;unfold Zu;simp only[qy11];unfold totA at h4;omega
theorem Zgb(s:List UInt8)(c:Nat)(hc:c<256):BdP s (begP c):=by
 unfold begP;split
 ·exact⟨by simp,by simp;omega,by simp,by simp,by simp,by simp,by simp,by simp,by simp,by simp,by simp,by simp⟩
 ·exact⟨by simp;omega,by simp,by simp,by simp,by simp,by simp,by simp,by simp,by simp,by simp,by simp,by simp⟩
theorem pw2:pw 2=65536:=rfl
theorem pw1:pw 1=256:=rfl
theorem Zi5{s:List UInt8}{p:Pkt}{a:Nat}{b:Bool}(h:BdP s p)(ha:a<=s.length):BdP s (headD s p a b).1/\(headD s p a b).2.1<=s.length/\(headD s p a b).1.asks=p.asks/\(headD s p a b).1.codes=p.codes:=by
 obtain⟨h1,h2,h3,h4,h5,h6,h7,h8,h9,h10,h11,h12⟩:=h;unfold headD;split
 ·rename_i hk;have t1:=Z3o s a b ha;have n1:=Z1e s 1 (rdT s a b).2.1 (rdT s a b).2.2 t1.2.1;have n2:=Z1e s 1 (rdN s 1 (rdT s a b).2.1 (rdT s a b).2.2).2.1 (rdN s 1 (rdT s a b).2.1 (rdT s a b).2.2).2.2 n1.2.2.2.1;unfold Z61;simp only;generalize rdN s 1 (rdN s 1 (rdT s a b).2.1 (rdT s a b).2.2).2.1 (rdN s 1 (rdT s a b).2.1 (rdT s a b).2.2).2.2=x at n2⊢
  have n3:=Z1e s 2 x.2.1 x.2.2 n2.2.2.2.1;generalize rdN s 2 x.2.1 x.2.2=y at n3⊢
  have t2:=Z3o s y.2.1 y.2.2 n3.2.2.2.1;rw[pw2]at n3;exact⟨⟨h1,h2,h3,by simp only;omega,h5,h6,h7,by simp only;omega,h9,h10,h11,h12⟩,t2.2.1,trivial,trivial⟩
 ·split
  ·have n1:=Z1e s 1 a b ha;have n2:=Z1e s 1 (rdN s 1 a b).2.1 (rdN s 1 a b).2.2 n1.2.2.2.1;rw[pw1]at n2;exact⟨⟨h1,h2,h3,h4,by simp only;omega,h6,h7,h8,h9,h10,h11,h12⟩,n2.2.2.2.1,rfl,rfl⟩
  ·split
   ·have t1:=Z3o s a b ha;exact⟨⟨h1,h2,h3,h4,h5,h6,h7,h8,by simp only;omega,h10,h11,h12⟩,t1.2.1,rfl,rfl⟩
   ·exact⟨⟨h1,h2,h3,h4,h5,h6,h7,h8,h9,h10,h11,h12⟩,ha,rfl,rfl⟩
theorem Zqq{s:List UInt8}{q:RS}(h:BdP s q.1)(ha:q.2.1<=s.length):BdP s (idD s q).1/\(idD s q).2.1<=s.length/\(idD s q).1.asks=q.1.asks/\(idD s q).1.codes=q.1.codes:=by
 obtain⟨h1,h2,h3,h4,h5,h6,h7,h8,h9,h10,h11,h12⟩:=h;unfold idD;split
 ·have n1:=Z1e s 2 q.2.1 q.2.2 ha;rw[pw2]at n1;exact⟨⟨h1,h2,by simp only;omega,h4,h5,h6,h7,h8,h9,h10,h11,h12⟩,n1.2.2.2.1,rfl,rfl⟩
 ·exact⟨⟨h1,h2,h3,h4,h5,h6,h7,h8,h9,h10,h11,h12⟩,ha,rfl,rfl⟩
theorem Zpf{s:List UInt8}{q:RS}(h:BdP s q.1)(ha:q.2.1<=s.length)(e1:q.1.asks=[])(e2:q.1.codes=[]):BdP s (Z1c s q).1/\(Z1c s q).2.1<=s.length:=by
 obtain⟨h1,h2,h3,h4,h5,h6,h7,h8,h9,h10,h11,h12⟩:=h;unfold Z1c;split
 ·exact⟨⟨h1,h2,h3,h4,h5,h6,h7,h8,h9,by simp,h11,h12⟩,Nat.le_refl _⟩
 ·split
  ·obtain⟨i1,i2,i3,i4⟩:=Zmo (s:=s) (k:=q.1.kind) (Zf s q.2.1 q.2.2) q.2.1 q.2.2 q.1.asks ha;rw[e1]at i3 i4⊢;refine⟨⟨h1,h2,h3,h4,h5,λx hx=>?_,h7,h8,h9,h10,?_,h12⟩,?_⟩
   ·rcases i3 x hx with hx|hx
    ·cases hx
    ·exact hx
   ·simp only;rw[e1]at i2;have e0:totA q.1.kind []=0:=rfl;rw[e0]at i4;omega
   ·rw[e1]at i2;exact i2
  ·split
   ·obtain⟨i1,i2,i3,i4⟩:=Zmp (s:=s) (Zf s q.2.1 q.2.2) q.2.1 q.2.2 q.1.codes ha;rw[e2]at i3 i4⊢;refine⟨⟨h1,h2,h3,h4,h5,h6,λx hx=>?_,h8,h9,h10,h11,?_⟩,?_⟩
    ·rcases i3 x hx with hx|hx
     ·cases hx
     ·exact hx
    ·rw[e2]at i2;simp only[List.length_nil]at i4⊢;omega
    ·rw[e2]at i2;exact i2
   ·exact⟨⟨h1,h2,h3,h4,h5,h6,h7,h8,h9,h10,h11,h12⟩,ha⟩
theorem Zd0{s:List UInt8}{a:Nat}(h:(getL s a).2.2=0):a<=s.length/\(a+(getL s a).2.1).toNat<=s.length/\0<=(getL s a).2.1:=by
 unfold getL at h⊢;split at h
 ·rename_i h0;rw[if_pos h0];have:=Zm4 4 0 0 (s.drop (a:Int).toNat) (by decide);rw[List.length_drop]at this;omega
 ·simp at h
theorem Z7f{s:List UInt8}(h:(getL s 1).2.2=0):BdP s (Zo s).1/\(Zo s).2.1<=s.length:=by
 have h1:=Zd0 (a:=1) h;have h2:(1+(getL s 1).2.1).toNat<=s.length:=h1.2.1;unfold Zo Z4t;obtain⟨a1,a2,a3,a4⟩:=Zi5 (b:=false) (Zgb s (s.getD 0 0).toNat (Z60 _)) h2;obtain⟨b1,b2,b3,b4⟩:=Zqq a1 a2;have e:(begP (s.getD 0 0).toNat).asks=[]/\(begP (s.getD 0 0).toNat).codes=[]:=by unfold begP;split<;>exact⟨rfl,rfl⟩
 exact Zpf b1 b2 (by rw[b3,a3,e.1]) (by rw[b4,a4,e.2])
def rdV(s:List UInt8)(a:Nat)(sh:Bool):List Value:=[.string ⟨s.toArray⟩,.int .i64 a,.bool sh]
abbrev rdAt(w:World)(b:Nat)(s:List UInt8)(a:Nat)(sh:Bool):Prop:=w.heap[b]?=some (.cells (rdV s a sh).toArray 78 (0,0))
def pC(p:Pkt)(u v:Value):List Value:=[.int .i64 p.kind,.bool p.dup,.bool p.retain,.bool p.clean,.bool p.session,.int .i64 p.qos,.int .i64 p.id,.int .i64 p.keep,.int .i64 p.code,.string ⟨p.client.toArray⟩,.string ⟨p.topic.toArray⟩,.string ⟨p.payload.toArray⟩,Go.Sx.sc1 u,Go.Sx.sc1 v]
abbrev pAt(w:World)(b:Nat)(p:Pkt)(u v:Value):Prop:=w.heap[b]?=some (.cells (pC p u v).toArray 29 (0,0))
theorem Zeo{w:World}{J:List V}{hp:List Ent}{fp:List Nat}(hh:∀e∈hp,e.holds J w)(ho:∀e∈hp,e.wr=true->∀k,e.fp J k->k∈fp)(hs:Zv J hp):Rel ⟨fp,w⟩ J hp w :=
 ⟨Mod.refl _ _,hh,λe he hw k hk=>.inr (ho e he hw k hk),hs⟩
section
variable (w:World) (b:Nat) (s:List UInt8) (a:Nat) (sh:Bool) (h:rdAt w b s a sh) (ha:a<=s.length) (hs:s.length<1000000000)
include h
theorem Zum{k:V}:Rel ⟨[b],w⟩ [.n b,.s s,.i a,.b sh,k] [.cells 0 78 [.str (.var 1),.int .i64 (.var 2),.bool (.var 3)]] w :=
 Zeo (qy2.2 ⟨h,qy5 _⟩) (qy2.2 ⟨λ_ k hk=>by simp only[Ent.fp,QQ,Nat.reduceAdd]at hk;simp[hk],qy5 _⟩) Z6
theorem Zqr:Rel ⟨[b],w⟩ [.n b,.s s,.i a,.b sh] [.cells 0 78 [.str (.var 1),.int .i64 (.var 2),.bool (.var 3)]] w :=
 Zeo (qy2.2 ⟨h,qy5 _⟩) (qy2.2 ⟨λ_ k hk=>by simp only[Ent.fp,QQ,Nat.reduceAdd]at hk;simp[hk],qy5 _⟩) Z6
include ha
theorem Zsq:Calls Tryz.prog 77 #[.pointer (some ⟨b,0,none⟩)] w λe w'=>e=.returned (.string ⟨(s.drop a).toArray⟩)/\rdAt w' b s s.length sh/\Mod [b] w w':=by refine Z1 (Z5 (J:=[.n b,.s s,.i a,.b sh]) sxE_ok Tryz.func77 Z4p rfl rfl (Zqr w b s a sh h) rfl rfl ?_) rfl;simp only[QQ,Nat.reduceAdd];refine⟨by omega,by omega,λw' hr=>⟨by simp,hr.at_ 0 rfl,hr.mod⟩⟩
include hs
theorem Z1u(k:Nat)(hk:1<=k/\k<=4):Calls Tryz.prog 75 #[.pointer (some ⟨b,0,none⟩),.int .i64 k] w λe w'=>e=.returned (.int .i64 (rdN s k a sh).1)/\rdAt w' b s (rdN s k a sh).2.1 (rdN s k a sh).2.2/\Mod [b] w w':=by
 refine Z1 (Z5 (J:=[.n b,.s s,.i a,.b sh,.i k]) sxE_ok Tryz.func75 Z3w rfl rfl (Zum w b s a sh h) rfl rfl ?_) rfl;simp only[QQ,Nat.reduceAdd];refine⟨[.i (getR s a k).1,.i (getR s a k).2],rfl,λ_ w' _=>Zcs w' s a k (by omega),?_⟩;simp only[QQ,Nat.reduceAdd];refine⟨by omega,by omega,λw' hr=>?_⟩;have hc:=hr.at_ 0 rfl;simp only[Ent.holds,QQ,Nat.reduceAdd]at hc;by_cases hh:a+k<=s.length
 ·have e1:getR s a k=(((beN ((s.drop a).take k) 0:Nat):Int),0):=by
   have:=Z4r (s:=s) (at_:=a) (b:=k) (by omega) (by omega) (by omega);simpa using this
  have e2:rdN s k a sh=(((beN ((s.drop a).take k) 0:Nat):Int),a+k,sh):=by rw[rdN,if_pos hh]
  rw[e1]at hc⊢;rw[e2];refine⟨rfl,?_,hr.mod⟩;have e3:(if(a:Int)+(k:Int)<(s.length:Int)then(a:Int)+(k:Int)else(s.length:Int))=((a+k:Nat):Int):=by split<;>omega
  rw[e3]at hc;rw[rdAt,hc];simp[rdV]
 ·have e1:getR s a k=(0,8):=Z1m (by omega) (by omega) (by omega);have e2:rdN s k a sh=(0,s.length,true):=by rw[rdN,if_neg hh]
  rw[e1]at hc⊢;rw[e2];refine⟨rfl,?_,hr.mod⟩;have e3:(if(a:Int)+(k:Int)<(s.length:Int)then(a:Int)+(k:Int)else(s.length:Int))=((s.length:Nat):Int):=by split<;>omega
  rw[e3]at hc;rw[rdAt,hc];simp[rdV]
theorem Zan:Calls Tryz.prog 76 #[.pointer (some ⟨b,0,none⟩)] w λe w'=>e=.returned (.string ⟨(rdT s a sh).1.toArray⟩)/\rdAt w' b s (rdT s a sh).2.1 (rdT s a sh).2.2/\Mod [b] w w':=by
 refine Z1 (Z5 (J:=[.n b,.s s,.i a,.b sh]) sxE_ok Tryz.func76 Z4k rfl rfl (Zqr w b s a sh h) rfl rfl ?_) rfl;simp only[QQ,Nat.reduceAdd];refine⟨[.s (getT s a).1,.i (getT s a).2.1,.i (getT s a).2.2],rfl,λ_ w' _=>Zm5 w' s a (by omega),?_⟩;simp only[QQ,Nat.reduceAdd];have key:((a:Int)+(getT s a).2.1=((rdT s a sh).2.1:Nat))/\(getT s a).1=(rdT s a sh).1/\(sh || !decide ((getT s a).2.2=0))=(rdT s a sh).2.2:=by
  by_cases h2:a+2<=s.length
  ·have e1:getR s a 2=(((beN ((s.drop a).take 2) 0:Nat):Int),0):=by
    have:=Z4r (s:=s) (at_:=a) (b:=2) (by omega) (by omega) (by omega);simpa using this
   rw[getT,e1,if_pos rfl,rdT];simp only;by_cases h3:a+2+beN ((s.drop a).take 2) 0<=s.length
   ·rw[if_neg (by omega),if_pos ⟨h2,h3⟩];refine⟨by simp only;omega,?_,by simp⟩;have e3:((a:Int)+2+((beN ((s.drop a).take 2) 0:Nat):Int)).toNat=a+2+beN ((s.drop a).take 2) 0:=by omega
    have e4:((a:Int)+2).toNat=a+2:=by omega
    simp only[e3,e4];rw[List.drop_take];congr 1
    omega
   ·rw[if_pos (by omega),if_neg (by omega)];exact⟨by simp,rfl,by simp⟩
  ·have e1:getR s a 2=(0,8):=Z1m (by omega) (by omega) (by omega);rw[getT,e1,if_neg (by simp),rdT,if_neg (by omega)];exact⟨by simp,rfl,by simp⟩
 obtain⟨k1,k2,k3⟩:=key;have kb:=Z3o s a sh ha;rw[k1];refine⟨by omega,by omega,λw' hr=>?_⟩;have hc:=hr.at_ 0 rfl;simp only[Ent.holds,QQ,Nat.reduceAdd]at hc;rw[k1,k3]at hc;exact⟨by rw[k2],hc,hr.mod⟩
end
end Go.Proofs.Y
namespace Go.Proofs.Y
open Go.Sx
abbrev nilV:Value:=.slice none 0 0
theorem Z5s(w:World)(ty:Nat)(ks:List Kd):owns w nilV ty ks []:=⟨by simp,World.ownsRow_nil _ _ _ _⟩
section
variable (w:World) (b c:Nat) (s:List UInt8) (a:Nat) (sh:Bool) (p:Pkt) (h:rdAt w b s a sh) (hp:pAt w c p nilV nilV) (hbc:b≠c) (ha:a<=s.length) (hs:s.length<1000000000)
include h hp hbc
theorem Zqs:Rel ⟨[b,c],w⟩ [.n b,.s s,.i a,.b sh,.n c,.i p.kind,.b p.dup,.b p.retain,.b p.clean,.b p.session,.i p.qos,.i p.id,.i p.keep,.i p.code,.s p.client,.s p.topic,.s p.payload] [.cells 0 78 [.str (.var 1),.int .i64 (.var 2),.bool (.var 3)],.cells 4 29 [.int .i64 (.var 5),.bool (.var 6),.bool (.var 7),.bool (.var 8),.bool (.var 9),.int .i64 (.var 10),.int .i64 (.var 11),.int .i64 (.var 12),.int .i64 (.var 13),.str (.var 14),.str (.var 15),.str (.var 16),.nils,.nils]] w:=by
 refine Zeo (qy2.2 ⟨h,qy2.2 ⟨hp,qy5 _⟩⟩) (qy2.2 ⟨λ_ k hk=>?_,qy2.2 ⟨λ_ k hk=>?_,qy5 _⟩⟩) (List.pairwise_cons.2 ⟨λe he _ k h1 h2=>?_,List.pairwise_singleton _ _⟩)
 ·simp only[Ent.fp,QQ,Nat.reduceAdd]at hk;simp[hk]
 ·simp only[Ent.fp,QQ,Nat.reduceAdd]at hk;simp[hk]
 ·rw[qy12]at he;subst he;simp only[Ent.fp,QQ,Nat.reduceAdd]at h1 h2;exact hbc (h1.symm.trans h2)
include ha hs
theorem Zjt:Calls Tryz.prog 74 #[.pointer (some ⟨b,0,none⟩),.pointer (some ⟨c,0,none⟩)] w λe w'=>e=.returned (.tuple #[])/\rdAt w' b s (Z61 s p a sh).2.1 (Z61 s p a sh).2.2/\pAt w' c (Z61 s p a sh).1 nilV nilV/\Mod [b,c] w w':=by refine Z1 (Z5 (J:=[.n b,.s s,.i a,.b sh,.n c,.i p.kind,.b p.dup,.b p.retain,.b p.clean,.b p.session,.i p.qos,.i p.id,.i p.keep,.i p.code,.s p.client,.s p.topic,.s p.payload]) sxE_ok Tryz.func74 Z3e rfl rfl (Zqs w b c s a sh p h hp hbc) rfl rfl ?_) rfl;simp only[QQ,Nat.reduceAdd];have t1:=Z3o s a sh ha;intro w1 hr;refine(Zan w1 b s a sh (hr.at_ 0 rfl) ha hs).mono ?_;rintro e w2 ⟨rfl,h1,m1⟩;refine⟨[.s _,.s s,.i (_:Nat),.b _],rfl,rfl,m1,qy2.2 ⟨h1,qy5 _⟩,(λx hx=>absurd hx List.not_mem_nil),Z7,?_⟩;(try simp only[QQ,Nat.reduceAdd]);have n1:=Z1e s 1 (rdT s a sh).2.1 (rdT s a sh).2.2 t1.2.1;clear m1 h1 hr;intro w1 hr;refine(Z1u w1 b s _ _ (hr.at_ 0 rfl) t1.2.1 hs 1 (by omega)).mono ?_;rintro e w2 ⟨rfl,h1,m1⟩;refine⟨[.i _,.s s,.i (_:Nat),.b _],rfl,rfl,m1,qy2.2 ⟨h1,qy5 _⟩,(λx hx=>absurd hx List.not_mem_nil),Z7,?_⟩;(try simp only[QQ,Nat.reduceAdd]);have n2:=Z1e s 1 _ (rdN s 1 (rdT s a sh).2.1 (rdT s a sh).2.2).2.2 n1.2.2.2.1;clear m1 h1 hr;intro w1 hr;refine(Z1u w1 b s _ _ (hr.at_ 0 rfl) n1.2.2.2.1 hs 1 (by omega)).mono ?_;rintro e w2 ⟨rfl,h1,m1⟩;refine⟨[.i _,.s s,.i (_:Nat),.b _],rfl,rfl,m1,qy2.2 ⟨h1,qy5 _⟩,(λx hx=>absurd hx List.not_mem_nil),Z7,?_⟩;(try simp only[QQ,Nat.reduceAdd]);have n3:=Z1e s 2 _ (rdN s 1 (rdN s 1 (rdT s a sh).2.1 (rdT s a sh).2.2).2.1 (rdN s 1 (rdT s a sh).2.1 (rdT s a sh).2.2).2.2).2.2 n2.2.2.2.1;clear m1 h1 hr;intro w1 hr;refine(Z1u w1 b s _ _ (hr.at_ 0 rfl) n2.2.2.2.1 hs 2 (by omega)).mono ?_;rintro e w2 ⟨rfl,h1,m1⟩;refine⟨[.i _,.s s,.i (_:Nat),.b _],rfl,rfl,m1,qy2.2 ⟨h1,qy5 _⟩,(λx hx=>absurd hx List.not_mem_nil),Z7,?_⟩;(try simp only[QQ,Nat.reduceAdd]);clear m1 h1 hr;intro w1 hr;refine(Zan w1 b s _ _ (hr.at_ 0 rfl) n3.2.2.2.1 hs).mono ?_;rintro e w2 ⟨rfl,h1,m1⟩;refine⟨[.s _,.s s,.i (_:Nat),.b _],rfl,rfl,m1,qy2.2 ⟨h1,qy5 _⟩,(λx hx=>absurd hx List.not_mem_nil),Z7,?_⟩;(try simp only[QQ,Nat.reduceAdd]);clear m1 h1 hr;exact λw' hr=>⟨by trivial,hr.at_ 0 rfl,hr.at_ 1 rfl,hr.mod⟩
end
def Zi6(w w':World)(b c:Nat)(s:List UInt8)(r:RS):Prop:=rdAt w' b s r.2.1 r.2.2/\Mod [b,c] w w'/\∃x y,pAt w' c r.1 x y/\owns w' x 69 [.str,.int .i64] (r.1.asks.map encA)/\owns w' y 3 [.int .i64] (r.1.codes.map Za) /\
 (∀k,Z3 x k->w.heap.size<=k)/\(∀k,Z3 y k->w.heap.size<=k)/\∀k,Z3 x k->Z3 y k->False
theorem Zao{w w':World}{b c:Nat}{s:List UInt8}{r:RS}{J:List V}{hp:List Ent}{x y:Value}(hr:Rel ⟨[b,c],w⟩ J hp w')(h0:rdAt w' b s r.2.1 r.2.2)(h1:pAt w' c r.1 x y) (o1:owns w' x 69 [.str,.int .i64] (r.1.asks.map encA)) (o2:owns w' y 3 [.int .i64] (r.1.codes.map Za)) {vx tx vy ty vb tb vc tc:Nat} {kx ky:List Kd} {rx ry:X} {cb cc:List Sc} (e2:hp[2]?=some (.cells vb tb cb)) (e3:hp[3]?=some (.cells vc tc cc)) (e4:hp[4]?=some (.row vx tx kx rx)) (e5:hp[5]?=some (.row vy ty ky ry)) (q2:(J.getD vb (.i 0)).toN=b) (q3:(J.getD vc (.i 0)).toN=c) (q4:(J.getD vx (.i 0)).toV=x) (q5:(J.getD vy (.i 0)).toV=y):Zi6 w w' b c s r:=by
 subst q2 q3 q4 q5;refine⟨h0,hr.mod,_,_,h1,o1,o2,λk hk=>?_,λk hk=>?_,λk hk hk'=>Zv.disj hr.sep e4 e5 (by decide) (.inl rfl) hk hk'⟩
 ·rcases hr.own _ (qy6 e4) rfl k hk with h|h
  ·exact h
  ·rcases List.mem_cons.1 h with h|h
   ·exact(Zv.disj hr.sep e4 e2 (by decide) (.inl rfl) hk h).elim
   ·rw[qy12]at h;exact(Zv.disj hr.sep e4 e3 (by decide) (.inl rfl) hk h).elim
 ·rcases hr.own _ (qy6 e5) rfl k hk with h|h
  ·exact h
  ·rcases List.mem_cons.1 h with h|h
   ·exact(Zv.disj hr.sep e5 e2 (by decide) (.inl rfl) hk h).elim
   ·rw[qy12]at h;exact(Zv.disj hr.sep e5 e3 (by decide) (.inl rfl) hk h).elim
def Ztt(s:List UInt8)(q:RS):List V->Prop:=λvs=>∃x y,vs=[.s s,.i q.2.1,.b q.2.2,.i q.1.kind,.b q.1.dup,.b q.1.retain,.b q.1.clean,.b q.1.session,.i q.1.qos,.i q.1.id,.i q.1.keep,.i q.1.code,.s q.1.client,.s q.1.topic,.s q.1.payload,.v x,.r (q.1.asks.map encA),.v y,.r (q.1.codes.map Za)]
def Ztu(s:List UInt8)(q:RS):List V->Prop:=λvs=>∃(l:List Ak) (a:Nat) (b:Bool) (x y:Value),vs=[.s s,.i a,.b b,.i q.1.kind,.b q.1.dup,.b q.1.retain,.b q.1.clean,.b q.1.session,.i q.1.qos,.i q.1.id,.i q.1.keep,.i q.1.code,.s q.1.client,.s q.1.topic,.s q.1.payload,.v x,.r (l.map encA),.v y,.r (q.1.codes.map Za)]/\a<=s.length /\
 (b=false->l.length<=a)/\rdAs s q.1.kind (Zf s a b) a b l=rdAs s q.1.kind (Zf s q.2.1 q.2.2) q.2.1 q.2.2 q.1.asks
def Ztv(s:List UInt8)(q:RS):List V->Prop:=λvs=>∃(l:List Int) (a:Nat) (b:Bool) (x y:Value),vs=[.s s,.i a,.b b,.i q.1.kind,.b q.1.dup,.b q.1.retain,.b q.1.clean,.b q.1.session,.i q.1.qos,.i q.1.id,.i q.1.keep,.i q.1.code,.s q.1.client,.s q.1.topic,.s q.1.payload,.v x,.r (q.1.asks.map encA),.v y,.r (l.map Za)]/\a<=s.length /\
 (b=false->l.length<=a)/\rdCs s (Zf s a b) a b l=rdCs s (Zf s q.2.1 q.2.2) q.2.1 q.2.2 q.1.codes
def Zpg(s:List UInt8)(vs:List V):Nat:=Zf s (vs.getD 1 (.i 0)).toI.toNat (vs.getD 2 (.i 0)).toB
section
variable (w:World) (b c:Nat) (s:List UInt8) (a:Nat) (sh:Bool) (p:Pkt) (h:rdAt w b s a sh) (hp:pAt w c p nilV nilV) (hbc:b≠c) (ha:a<=s.length) (hs:s.length<1000000000) (pz:p.asks=[]/\p.codes=[]) (hB:BdP s p)
include h hp hbc ha hs pz hB
theorem Zd1:Calls Tryz.prog 40 #[.pointer (some ⟨b,0,none⟩),.pointer (some ⟨c,0,none⟩)] w λe w'=>e=.returned (.tuple #[])/\Zi6 w w' b c s (Z4t s p a sh):=by
  refine Z1 (Z5 (J:=[.n b,.s s,.i a,.b sh,.n c,.i p.kind,.b p.dup,.b p.retain,.b p.clean,.b p.session,.i p.qos,.i p.id,.i p.keep,.i p.code,.s p.client,.s p.topic,.s p.payload]) (sxE_ok.joins _) Tryz.func40 Z4m rfl rfl (Zqs w b c s a sh p h hp hbc) rfl rfl ?_) rfl;simp only[QQ,Nat.reduceAdd];intro b1 b2;refine⟨Ztt s (headD s p a sh),⟨λh1=>?_,λh1=>⟨λh2=>?_,λh2=>⟨λh3=>?_,λh3=>?_⟩⟩⟩,?_⟩
  . intro w1 hr;refine(Zjt w1 b c s a sh p (hr.at_ 2 rfl) (hr.at_ 3 rfl) hbc ha hs).mono ?_;rintro e w2 ⟨rfl,g1,g2,m1⟩;have hq:headD s p a sh=Z61 s p a sh:=by rw[headD,if_pos h1]
    rw[hq];have za:(Z61 s p a sh).1.asks=[]:=pz.1;have zc:(Z61 s p a sh).1.codes=[]:=pz.2;generalize Z61 s p a sh=q at g1 g2 za zc⊢
    refine⟨[.s s,.i q.2.1,.b q.2.2,.i q.1.kind,.b q.1.dup,.b q.1.retain,.b q.1.clean,.b q.1.session,.i q.1.qos,.i q.1.id,.i q.1.keep,.i q.1.code,.s q.1.client,.s q.1.topic,.s q.1.payload,.v nilV,.r [],.v nilV,.r []],rfl,rfl,m1,qy2.2 ⟨g1,qy2.2 ⟨g2,qy5 _⟩⟩,
      qy2.2 ⟨⟨Z5s _ _ _,λz hz=>by cases hz⟩,qy2.2 ⟨⟨Z5s _ _ _,λz hz=>by cases hz⟩,qy5 _⟩⟩,List.pairwise_cons.2 ⟨λe he _ k hk _=>(by cases hk),List.pairwise_singleton _ _⟩,?_⟩
    simp only[QQ,Nat.reduceAdd];exact⟨nilV,nilV,by rw[za,zc];rfl⟩
  . have n1:=Z1e s 1 a sh ha;intro w1 hr;refine(Z1u w1 b s a sh (hr.at_ 2 rfl) ha hs 1 (by omega)).mono ?_;rintro e w2 ⟨rfl,h1,m1⟩;refine⟨[.i _,.s s,.i (_:Nat),.b _],rfl,rfl,m1,qy2.2 ⟨h1,qy5 _⟩,(λx hx=>absurd hx List.not_mem_nil),Z7,?_⟩;(try simp only[QQ,Nat.reduceAdd]);clear m1 h1 hr;intro w1 hr;refine(Z1u w1 b s _ _ (hr.at_ 2 rfl) n1.2.2.2.1 hs 1 (by omega)).mono ?_;rintro e w2 ⟨rfl,h1,m1⟩;refine⟨[.i _,.s s,.i (_:Nat),.b _],rfl,rfl,m1,qy2.2 ⟨h1,qy5 _⟩,(λx hx=>absurd hx List.not_mem_nil),Z7,?_⟩;(try simp only[QQ,Nat.reduceAdd]);rw[headD,if_neg (show ¬p.kind=1 by assumption),if_pos h2];exact⟨nilV,nilV,by simp only[pz.1,pz.2];rfl⟩
  . intro w1 hr;refine(Zan w1 b s a sh (hr.at_ 2 rfl) ha hs).mono ?_;rintro e w2 ⟨rfl,h1,m1⟩;refine⟨[.s _,.s s,.i (_:Nat),.b _],rfl,rfl,m1,qy2.2 ⟨h1,qy5 _⟩,(λx hx=>absurd hx List.not_mem_nil),Z7,?_⟩;(try simp only[QQ,Nat.reduceAdd]);rw[headD,if_neg (show ¬p.kind=1 by assumption),if_neg (show ¬p.kind=2 by assumption),if_pos h3];exact⟨nilV,nilV,by simp only[pz.1,pz.2];rfl⟩
  . rw[headD,if_neg (show ¬p.kind=1 by assumption),if_neg (show ¬p.kind=2 by assumption),if_neg (show ¬p.kind=3 by assumption)];exact⟨nilV,nilV,by simp only[pz.1,pz.2];rfl⟩
  obtain⟨d1,d2,d3,d4⟩:=Zi5 (b:=sh) hB ha;rw[Z4t];rw[pz.1]at d3;rw[pz.2]at d4;generalize headD s p a sh=q at d1 d2 d3 d4⊢
  rintro _ - ⟨x1,y1,rfl⟩;simp only[QQ,Nat.reduceAdd];refine⟨[.b (idB q.1)],rfl,λ_ w' hr=>Zp8 w' q.1 x1 y1 (owns.reads (hr.at_ 4 rfl)) (owns.reads (hr.at_ 5 rfl)),?_⟩;simp only[QQ,Nat.reduceAdd];refine⟨Ztt s (idD s q),⟨λh1=>?_,λh1=>?_⟩,?_⟩
  . intro w1 hr;refine(Z1u w1 b s _ _ (hr.at_ 2 rfl) d2 hs 2 (by omega)).mono ?_;have h1':=h1;rintro e w2 ⟨rfl,h1,m1⟩;refine⟨[.i _,.s s,.i (_:Nat),.b _],rfl,rfl,m1,qy2.2 ⟨h1,qy5 _⟩,(λx hx=>absurd hx List.not_mem_nil),Z7,?_⟩;(try simp only[QQ,Nat.reduceAdd]);rw[idD,if_pos h1'];exact⟨x1,y1,rfl⟩
  . rw[idD,if_neg h1];exact⟨x1,y1,rfl⟩
  obtain⟨f1,hqa,f3,f4⟩:=Zqq d1 d2;have hqz:(idD s q).1.asks=[]/\(idD s q).1.codes=[]:=⟨by rw[f3,d3],by rw[f4,d4]⟩
  generalize idD s q=q at f1 hqa hqz⊢
  rintro _ - ⟨x2,y2,rfl⟩;simp only[QQ,Nat.reduceAdd];refine⟨λk3=>?_,λk3=>⟨λk8=>?_,λk8=>⟨λk10=>?_,λk10=>⟨λk9=>?_,λk9 w' hr=>?_⟩⟩⟩⟩
  . intro w1 hr;refine(Zsq w1 b s _ _ (hr.at_ 2 rfl) hqa).mono ?_;rintro e w2 ⟨rfl,h1,m1⟩;refine⟨[.s _,.s s,.i (_:Nat),.b _],rfl,rfl,m1,qy2.2 ⟨h1,qy5 _⟩,(λx hx=>absurd hx List.not_mem_nil),Z7,?_⟩;(try simp only[QQ,Nat.reduceAdd]);intro w' hr;rw[Z1c,if_pos k3];exact⟨by trivial,Zao hr (hr.at_ 2 rfl) (hr.at_ 3 rfl) (hr.at_ 4 rfl) (hr.at_ 5 rfl) rfl rfl rfl rfl rfl rfl rfl rfl⟩
  . refine⟨Ztu s q,Zpg s,⟨q.1.asks,q.2.1,q.2.2,x2,y2,rfl,hqa,λ_=>by rw[hqz.1];simp,rfl⟩,?_⟩;rintro _ - ⟨l,a',b',x3,y3,rfl,ha',hl',hg⟩;simp only[QQ,Nat.reduceAdd,qy4,qy3];refine⟨λhc=>?_,λhc w' hr=>?_⟩;(· have hc':a'<s.length/\b'=false:=⟨by have:=hc.1;omega,by simpa using hc.2⟩;have hll:=hl' hc'.2;have hA:=Zi2 s q.1.kind a' b' ha';have hT:=Z3o s a' b' ha';have hst:=Zak (k:=q.1.kind) (l:=l) hc';have hlt:=Zi3 (k:=q.1.kind) hc'.1 hc'.2;intro w1 hr;refine(Zan w1 b s a' b' (hr.at_ 2 rfl) ha' hs).mono ?_;rintro e w2 ⟨rfl,h1,m1⟩;refine⟨[.s _,.s s,.i (_:Nat),.b _],rfl,rfl,m1,qy2.2 ⟨h1,qy5 _⟩,(λx hx=>absurd hx List.not_mem_nil),Z7,?_⟩;(try simp only[QQ,Nat.reduceAdd]);clear m1 h1 hr;intro ba;refine⟨λhk=>?_,λhk=>?_⟩;(· have e8:Zr s q.1.kind a' b'=(((rdT s a' b').1,(rdN s 1 (rdT s a' b').2.1 (rdT s a' b').2.2).1),(rdN s 1 (rdT s a' b').2.1 (rdT s a' b').2.2).2):=by { rw[Zr,if_pos hk] };intro w1 hr;refine(Z1u w1 b s _ _ (hr.at_ 3 rfl) hT.2.1 hs 1 (by omega)).mono ?_;rintro e w2 ⟨rfl,h1,m1⟩;refine⟨[.i _,.s s,.i (_:Nat),.b _],rfl,rfl,m1,qy2.2 ⟨h1,qy5 _⟩,(λx hx=>absurd hx List.not_mem_nil),Z7,?_⟩;(try simp only[QQ,Nat.reduceAdd]);clear m1 h1 hr;intro z1;refine⟨by(try simp only[qy3,List.length_nil,List.length_cons]);omega,λz2=>⟨⟨l++[(Zr s q.1.kind a' b').1],(Zr s q.1.kind a' b').2.1,(Zr s q.1.kind a' b').2.2,z2,y3,by rw[e8];simp[encA],hA.2.1,λh0=>?_,by rw[<- hst];exact hg⟩,by rw[e8]at hlt;exact hlt⟩⟩;have:=(hA.2.2.2.2.2.2 h0).2.2;simp only[qy11,List.length_cons,List.length_nil];omega);(· have e8:Zr s q.1.kind a' b'=(((rdT s a' b').1,0),(rdT s a' b').2):=by { rw[Zr,if_neg hk] };intro z1;refine⟨by(try simp only[qy3,List.length_nil,List.length_cons]);omega,λz2=>⟨⟨l++[(Zr s q.1.kind a' b').1],(Zr s q.1.kind a' b').2.1,(Zr s q.1.kind a' b').2.2,z2,y3,by rw[e8];simp[encA],hA.2.1,λh0=>?_,by rw[<- hst];exact hg⟩,by rw[e8]at hlt;exact hlt⟩⟩;have:=(hA.2.2.2.2.2.2 h0).2.2;simp only[qy11,List.length_cons,List.length_nil];omega));(· have hc':¬(a'<s.length/\b'=false):=λhh=>hc ⟨by have:=hh.1;omega,by simp[hh.2]⟩;rw[Z9g hc']at hg;have hrr:Z1c s q=({ q.1 with asks:=l },a',b'):=by { unfold Z1c;rw[if_neg k3,if_pos (by omega),<- hg] };rw[hrr];exact⟨by trivial,Zao hr (hr.at_ 2 rfl) (hr.at_ 3 rfl) (hr.at_ 4 rfl) (hr.at_ 5 rfl) rfl rfl rfl rfl rfl rfl rfl rfl⟩)
  . refine⟨Ztu s q,Zpg s,⟨q.1.asks,q.2.1,q.2.2,x2,y2,rfl,hqa,λ_=>by rw[hqz.1];simp,rfl⟩,?_⟩;rintro _ - ⟨l,a',b',x3,y3,rfl,ha',hl',hg⟩;simp only[QQ,Nat.reduceAdd,qy4,qy3];refine⟨λhc=>?_,λhc w' hr=>?_⟩;(· have hc':a'<s.length/\b'=false:=⟨by have:=hc.1;omega,by simpa using hc.2⟩;have hll:=hl' hc'.2;have hA:=Zi2 s q.1.kind a' b' ha';have hT:=Z3o s a' b' ha';have hst:=Zak (k:=q.1.kind) (l:=l) hc';have hlt:=Zi3 (k:=q.1.kind) hc'.1 hc'.2;intro w1 hr;refine(Zan w1 b s a' b' (hr.at_ 2 rfl) ha' hs).mono ?_;rintro e w2 ⟨rfl,h1,m1⟩;refine⟨[.s _,.s s,.i (_:Nat),.b _],rfl,rfl,m1,qy2.2 ⟨h1,qy5 _⟩,(λx hx=>absurd hx List.not_mem_nil),Z7,?_⟩;(try simp only[QQ,Nat.reduceAdd]);clear m1 h1 hr;intro ba;refine⟨λhk=>?_,λhk=>?_⟩;(· have e8:Zr s q.1.kind a' b'=(((rdT s a' b').1,(rdN s 1 (rdT s a' b').2.1 (rdT s a' b').2.2).1),(rdN s 1 (rdT s a' b').2.1 (rdT s a' b').2.2).2):=by { rw[Zr,if_pos hk] };intro w1 hr;refine(Z1u w1 b s _ _ (hr.at_ 3 rfl) hT.2.1 hs 1 (by omega)).mono ?_;rintro e w2 ⟨rfl,h1,m1⟩;refine⟨[.i _,.s s,.i (_:Nat),.b _],rfl,rfl,m1,qy2.2 ⟨h1,qy5 _⟩,(λx hx=>absurd hx List.not_mem_nil),Z7,?_⟩;(try simp only[QQ,Nat.reduceAdd]);clear m1 h1 hr;intro z1;refine⟨by(try simp only[qy3,List.length_nil,List.length_cons]);omega,λz2=>⟨⟨l++[(Zr s q.1.kind a' b').1],(Zr s q.1.kind a' b').2.1,(Zr s q.1.kind a' b').2.2,z2,y3,by rw[e8];simp[encA],hA.2.1,λh0=>?_,by rw[<- hst];exact hg⟩,by rw[e8]at hlt;exact hlt⟩⟩;have:=(hA.2.2.2.2.2.2 h0).2.2;simp only[qy11,List.length_cons,List.length_nil];omega);(· have e8:Zr s q.1.kind a' b'=(((rdT s a' b').1,0),(rdT s a' b').2):=by { rw[Zr,if_neg hk] };intro z1;refine⟨by(try simp only[qy3,List.length_nil,List.length_cons]);omega,λz2=>⟨⟨l++[(Zr s q.1.kind a' b').1],(Zr s q.1.kind a' b').2.1,(Zr s q.1.kind a' b').2.2,z2,y3,by rw[e8];simp[encA],hA.2.1,λh0=>?_,by rw[<- hst];exact hg⟩,by rw[e8]at hlt;exact hlt⟩⟩;have:=(hA.2.2.2.2.2.2 h0).2.2;simp only[qy11,List.length_cons,List.length_nil];omega));(· have hc':¬(a'<s.length/\b'=false):=λhh=>hc ⟨by have:=hh.1;omega,by simp[hh.2]⟩;rw[Z9g hc']at hg;have hrr:Z1c s q=({ q.1 with asks:=l },a',b'):=by { unfold Z1c;rw[if_neg k3,if_pos (by omega),<- hg] };rw[hrr];exact⟨by trivial,Zao hr (hr.at_ 2 rfl) (hr.at_ 3 rfl) (hr.at_ 4 rfl) (hr.at_ 5 rfl) rfl rfl rfl rfl rfl rfl rfl rfl⟩)
  . refine⟨Ztv s q,Zpg s,⟨q.1.codes,q.2.1,q.2.2,x2,y2,rfl,hqa,λ_=>by rw[hqz.2];simp,rfl⟩,?_⟩;rintro _ - ⟨l,a',b',x3,y3,rfl,ha',hl',hg⟩;simp only[QQ,Nat.reduceAdd,qy4,qy3];refine⟨λhc=>⟨?_,?_⟩,λhc w' hr=>?_⟩;(· have hc':a'<s.length/\b'=false:=⟨by have:=hc.1;omega,by simpa using hc.2⟩;have hll:=hl' hc'.2;have hA:=Z1e s 1 a' b' ha';have hst:=Zal (l:=l) hc';have hlt:=Zi4 hc'.1 hc'.2;intro w1 hr;refine(Z1u w1 b s a' b' (hr.at_ 2 rfl) ha' hs 1 (by omega)).mono ?_;rintro e w2 ⟨rfl,h1,m1⟩;refine⟨[.i _,.s s,.i (_:Nat),.b _],rfl,rfl,m1,qy2.2 ⟨h1,qy5 _⟩,(λx hx=>absurd hx List.not_mem_nil),Z7,?_⟩;(try simp only[QQ,Nat.reduceAdd]);clear m1 h1 hr;intro z1;refine⟨by(try simp only[qy3,List.length_nil,List.length_cons]);omega,λz2=>⟨⟨l++[(rdN s 1 a' b').1],(rdN s 1 a' b').2.1,(rdN s 1 a' b').2.2,x3,z2,by simp[Za],hA.2.2.2.1,λh0=>?_,by rw[<- hst];exact hg⟩,hlt⟩⟩;have:=(hA.2.2.2.2.2 h0).2;simp only[qy11,List.length_cons,List.length_nil];omega);(· have hc':a'<s.length/\b'=false:=⟨by have:=hc.1;omega,by simpa using hc.2⟩;have hll:=hl' hc'.2;have hA:=Z1e s 1 a' b' ha';have hst:=Zal (l:=l) hc';have hlt:=Zi4 hc'.1 hc'.2;intro w1 hr;refine(Z1u w1 b s a' b' (hr.at_ 2 rfl) ha' hs 1 (by omega)).mono ?_;rintro e w2 ⟨rfl,h1,m1⟩;refine⟨[.i _,.s s,.i (_:Nat),.b _],rfl,rfl,m1,qy2.2 ⟨h1,qy5 _⟩,(λx hx=>absurd hx List.not_mem_nil),Z7,?_⟩;(try simp only[QQ,Nat.reduceAdd]);clear m1 h1 hr;refine⟨?_,?_⟩;(· intro z1;refine⟨by(try simp only[qy3,List.length_nil,List.length_cons]);omega,λz2=>⟨⟨l++[(rdN s 1 a' b').1],(rdN s 1 a' b').2.1,(rdN s 1 a' b').2.2,x3,z2,by simp[Za],hA.2.2.2.1,λh0=>?_,by rw[<- hst];exact hg⟩,hlt⟩⟩;have:=(hA.2.2.2.2.2 h0).2;simp only[qy11,List.length_cons,List.length_nil];omega);(· intro z1;refine⟨by(try simp only[qy3,List.length_nil,List.length_cons]);omega,λz2=>⟨⟨l++[(rdN s 1 a' b').1],(rdN s 1 a' b').2.1,(rdN s 1 a' b').2.2,x3,z2,by simp[Za],hA.2.2.2.1,λh0=>?_,by rw[<- hst];exact hg⟩,hlt⟩⟩;have:=(hA.2.2.2.2.2 h0).2;simp only[qy11,List.length_cons,List.length_nil];omega));(· have hc':¬(a'<s.length/\b'=false):=λhh=>hc ⟨by have:=hh.1;omega,by simp[hh.2]⟩;rw[Zcz hc']at hg;have hrr:Z1c s q=({ q.1 with codes:=l },a',b'):=by { unfold Z1c;rw[if_neg k3,if_neg (by omega),if_pos k9,<- hg] };rw[hrr];exact⟨by trivial,Zao hr (hr.at_ 2 rfl) (hr.at_ 3 rfl) (hr.at_ 4 rfl) (hr.at_ 5 rfl) rfl rfl rfl rfl rfl rfl rfl rfl⟩)
  . rw[Z1c,if_neg k3,if_neg (by omega),if_neg k9];exact⟨by trivial,Zao hr (hr.at_ 2 rfl) (hr.at_ 3 rfl) (hr.at_ 4 rfl) (hr.at_ 5 rfl) rfl rfl rfl rfl rfl rfl rfl rfl⟩
end
end Go.Proofs.Y
namespace Go.Proofs.Y
open Go.Sx
theorem Zep(c k:Nat)(hk:k<64):((c:Nat):Int).fdiv (2 ^ (Nat.min k IntKind.i64.bits))=((c / 2 ^ k:Nat):Int):=by rw[Zg3 _ k hk,Int.natCast_ediv]
theorem Zqt(c:Nat)(h:c<256):(!decide (Zw .and .i64 (c:Int) 8=0))=decide (c / 8 % 2=1):=by
 have:∀x:Fin 256,(!decide (Zw .and .i64 ((x.val:Nat):Int) 8=0))=decide (x.val / 8 % 2=1):=by decide +kernel
 exact this ⟨c,h⟩
theorem Zqu(c:Nat)(h:c<256):(!decide (Zw .and .i64 (c:Int) 1=0))=decide (c % 2=1):=by
 have:∀x:Fin 256,(!decide (Zw .and .i64 ((x.val:Nat):Int) 1=0))=decide (x.val % 2=1):=by decide +kernel
 exact this ⟨c,h⟩
theorem Zqv(c:Nat)(h:c<256):Zw .and .i64 ((c / 2 ^ 1:Nat):Int) 3=((c / 2 % 4:Nat):Int):=by
 have:∀x:Fin 256,Zw .and .i64 ((x.val / 2 ^ 1:Nat):Int) 3=((x.val / 2 % 4:Nat):Int):=by decide +kernel
 exact this ⟨c,h⟩
def Zd2(w w':World)(p:Pkt)(x y:Value):Prop:=Mod [] w w'/\Z38 w' x p.asks/\Z2d w' y p.codes/\(∀k,Z3 x k->w.heap.size<=k)/\(∀k,Z3 y k->w.heap.size<=k)
theorem Z13{w w':World}(h:Mod [] w w')(k:Int):Zd2 w w' (pD_Q k) nilV nilV:=⟨h,Zt _,Zx _,λk hk=>(by cases hk),λk hk=>(by cases hk)⟩
theorem Zeq(w:World)(s:List UInt8)(hs:s.length<=60000000):Calls Tryz.prog 10 #[.string ⟨s.toArray⟩] w λe w'=>∃x y,e=.returned (.tuple #[pV (decD s).1 x y,.int .i64 (decD s).2])/\Zd2 w w' (decD s).1 x y:=by
 refine Z1 (Z4 (J:=[.s s]) sxE_ok Tryz.func10 Z3m rfl rfl rfl ?_) rfl;simp only[QQ,Nat.reduceAdd];intro b1;refine⟨[.i (getL s 1).1,.i (getL s 1).2.1,.i (getL s 1).2.2],rfl,λ_ w' _=>Zac w' s 1 (by omega),?_⟩;simp only[QQ,Nat.reduceAdd];have hgb:=Zab s 1;refine⟨λh w' hr=>?_,λh=>?_⟩
 ·refine⟨nilV,nilV,?_⟩;rw[decD,if_pos h];exact⟨rfl,Z13 hr.mod 0⟩
 have hL:=h;have hl0:(getL s 1).2.2=0:=qy9.1 λhh=>h (.inr hh);have hbd:=(Z7f hl0).1;have hat:=Zd0 (a:=1) hl0;have hln:(1+(getL s 1).2.1).toNat<=s.length:=hat.2.1;have hz:Int.toNat 0=0:=rfl;have h4:(Int.toNat 4)=4:=rfl;have h1:(Int.toNat 1)=1:=rfl;simp only[hz,h4,h1];have hc:=Z60 (s.getD 0 0);generalize hcc:(s.getD 0 0).toNat=c at hc⊢
 have hrd:Z4t s (begP c) (1+(getL s 1).2.1).toNat false=Zo s:=by rw[Zo,hcc]
 have hbg:=Zgb s c hc;have hbz:(begP c).asks=[]/\(begP c).codes=[]:=by unfold begP;split<;>exact⟨rfl,rfl⟩
 have hat1:(1+(getL s 1).2.1)=((1+(getL s 1).2.1).toNat:Nat):=by omega
 refine⟨by have:=hat.1;omega,λb5=>?_⟩;rw[Zep c 4 (by omega)];have e16:c / 2 ^ 4=c / 16:=rfl;rw[e16];refine⟨λh3=>⟨by omega,by omega,λb6=>?_⟩,λh3=>⟨by omega,by omega,λb6=>?_⟩⟩
 ·have eb:begP c={ pD_Q 3 with dup:=decide (c / 8 % 2=1),qos:=((c / 2 % 4:Nat):Int),retain:=decide (c % 2=1) }:=by rw[begP,if_pos (by omega)];rfl
  intro w1 hr;have q1:rdAt w1 b6 s (1+(getL s 1).2.1).toNat false:=by have:=hr.at_ 0 rfl;simp only[Ent.holds,QQ,Nat.reduceAdd]at this;rw[hat1]at this;exact this
  have q2:pAt w1 b5 (begP c) nilV nilV:=by have:=hr.at_ 1 rfl;simp only[Ent.holds,QQ,Nat.reduceAdd,hz,h4,h1]at this;rw[hcc,Zep c 4 (by omega),Zep c 1 (by omega),Zqt c hc,Zqu c hc,Zqv c hc,e16,h3]at this;rw[eb];exact this
  refine(Zd1 w1 b6 b5 s _ false (begP c) q1 q2 (λe=>Zv.disj hr.sep (i:=0) (j:=1) rfl rfl (by decide) (.inl rfl) (k:=b6) (by simp only[Ent.fp,QQ,Nat.reduceAdd]) (by simp only[Ent.fp,QQ,Nat.reduceAdd];exact e)) hln (by omega) hbz hbg).mono ?_;rintro e w2 ⟨rfl,g1,m1,x,y,g2,o1,o2,fx,fy,fxy⟩;rw[hrd]at g1 g2 o1 o2;(generalize hr0:Zo s=r at g1 g2 o1 o2 hbd⊢);refine⟨[.s s,.i r.2.1,.b r.2.2,.i r.1.kind,.b r.1.dup,.b r.1.retain,.b r.1.clean,.b r.1.session,.i r.1.qos,.i r.1.id,.i r.1.keep,.i r.1.code,.s r.1.client,.s r.1.topic,.s r.1.payload,.v x,.r (r.1.asks.map encA),.v y,.r (r.1.codes.map Za)],rfl,rfl,m1,qy2.2 ⟨g1,qy2.2 ⟨g2,qy5 _⟩⟩,qy2.2 ⟨⟨o1,λk hk=>.inl (fx k hk)⟩,qy2.2 ⟨⟨o2,λk hk=>.inl (fy k hk)⟩,qy5 _⟩⟩,List.pairwise_cons.2 ⟨λe he _ k hk hk'=>by { rw[qy12]at he;subst he;exact fxy k hk hk' },List.pairwise_singleton _ _⟩,?_⟩;simp only[QQ,Nat.reduceAdd];refine⟨[.b (Z1h r.1.kind)],rfl,λ_ w' _=>Zag w' _,?_⟩;simp only[QQ,Nat.reduceAdd];refine⟨[.s (Zi r.1)],rfl,λ_ w' hr=>Z7e w' r.1 x y (owns.reads (hr.at_ 0 rfl)) (owns.reads (hr.at_ 1 rfl)) (hbd.byte hs),?_⟩;simp only[QQ,Nat.reduceAdd];refine⟨λh w' hr=>?_,λh=>?_⟩;(· have hn:r.2.2=true\/Z1h r.1.kind=false\/1<r.1.qos\/Zi r.1≠s:=h.elim (λh=>h.elim (λh=>h.elim .inl (λh=>.inr (.inl (by simpa using h)))) (λh=>.inr (.inr (.inl h)))) (λh=>.inr (.inr (.inr h)));refine⟨nilV,nilV,?_⟩;rw[decD,if_neg hL,hr0,if_pos hn];exact⟨rfl,Z13 hr.mod 0⟩);have hn:¬(r.2.2=true\/Z1h r.1.kind=false\/1<r.1.qos\/Zi r.1≠s):=(λhh=>hh.elim (λa=>h (.inl (.inl (.inl a)))) (λhh=>hh.elim (λa=>h (.inl (.inl (.inr (by simp[a]))))) (λhh=>hh.elim (λa=>h (.inl (.inr a))) (λa=>h (.inr a)))));refine⟨[.i (chkP r.1)],rfl,λ_ w' hr=>Z5r w' r.1 x y (owns.reads (hr.at_ 0 rfl)) (owns.reads (hr.at_ 1 rfl)) (hbd.small hs),?_⟩;simp only[QQ,Nat.reduceAdd];refine⟨λh2 w' hr=>?_,λh2 w' hr=>?_⟩;(· refine⟨nilV,nilV,?_⟩;rw[decD,if_neg hL,hr0,if_neg hn,if_neg h2];exact⟨rfl,Z13 hr.mod 0⟩);(· refine⟨x,y,?_⟩;rw[decD,if_neg hL,hr0,if_neg hn,if_pos (qy9.1 h2)];exact⟨rfl,hr.mod,owns.reads (hr.at_ 0 rfl),owns.reads (hr.at_ 1 rfl),λk hk=>(hr.own _ (qy6 (i:=0) rfl) rfl k hk).resolve_right (by simp),λk hk=>(hr.own _ (qy6 (i:=1) rfl) rfl k hk).resolve_right (by simp)⟩)
 ·have eb:begP c=pD_Q ((c / 16:Nat):Int):=by rw[begP,if_neg (by omega)]
  intro w1 hr;have q1:rdAt w1 b6 s (1+(getL s 1).2.1).toNat false:=by have:=hr.at_ 0 rfl;simp only[Ent.holds,QQ,Nat.reduceAdd]at this;rw[hat1]at this;exact this
  have q2:pAt w1 b5 (begP c) nilV nilV:=by have:=hr.at_ 1 rfl;simp only[Ent.holds,QQ,Nat.reduceAdd,hz,h4,h1]at this;rw[hcc,Zep c 4 (by omega),e16]at this;rw[eb];exact this
  refine(Zd1 w1 b6 b5 s _ false (begP c) q1 q2 (λe=>Zv.disj hr.sep (i:=0) (j:=1) rfl rfl (by decide) (.inl rfl) (k:=b6) (by simp only[Ent.fp,QQ,Nat.reduceAdd]) (by simp only[Ent.fp,QQ,Nat.reduceAdd];exact e)) hln (by omega) hbz hbg).mono ?_;rintro e w2 ⟨rfl,g1,m1,x,y,g2,o1,o2,fx,fy,fxy⟩;rw[hrd]at g1 g2 o1 o2;(generalize hr0:Zo s=r at g1 g2 o1 o2 hbd⊢);refine⟨[.s s,.i r.2.1,.b r.2.2,.i r.1.kind,.b r.1.dup,.b r.1.retain,.b r.1.clean,.b r.1.session,.i r.1.qos,.i r.1.id,.i r.1.keep,.i r.1.code,.s r.1.client,.s r.1.topic,.s r.1.payload,.v x,.r (r.1.asks.map encA),.v y,.r (r.1.codes.map Za)],rfl,rfl,m1,qy2.2 ⟨g1,qy2.2 ⟨g2,qy5 _⟩⟩,qy2.2 ⟨⟨o1,λk hk=>.inl (fx k hk)⟩,qy2.2 ⟨⟨o2,λk hk=>.inl (fy k hk)⟩,qy5 _⟩⟩,List.pairwise_cons.2 ⟨λe he _ k hk hk'=>by { rw[qy12]at he;subst he;exact fxy k hk hk' },List.pairwise_singleton _ _⟩,?_⟩;simp only[QQ,Nat.reduceAdd];refine⟨[.b (Z1h r.1.kind)],rfl,λ_ w' _=>Zag w' _,?_⟩;simp only[QQ,Nat.reduceAdd];refine⟨[.s (Zi r.1)],rfl,λ_ w' hr=>Z7e w' r.1 x y (owns.reads (hr.at_ 0 rfl)) (owns.reads (hr.at_ 1 rfl)) (hbd.byte hs),?_⟩;simp only[QQ,Nat.reduceAdd];refine⟨λh w' hr=>?_,λh=>?_⟩;(· have hn:r.2.2=true\/Z1h r.1.kind=false\/1<r.1.qos\/Zi r.1≠s:=h.elim (λh=>h.elim (λh=>h.elim .inl (λh=>.inr (.inl (by simpa using h)))) (λh=>.inr (.inr (.inl h)))) (λh=>.inr (.inr (.inr h)));refine⟨nilV,nilV,?_⟩;rw[decD,if_neg hL,hr0,if_pos hn];exact⟨rfl,Z13 hr.mod 0⟩);have hn:¬(r.2.2=true\/Z1h r.1.kind=false\/1<r.1.qos\/Zi r.1≠s):=(λhh=>hh.elim (λa=>h (.inl (.inl (.inl a)))) (λhh=>hh.elim (λa=>h (.inl (.inl (.inr (by simp[a]))))) (λhh=>hh.elim (λa=>h (.inl (.inr a))) (λa=>h (.inr a)))));refine⟨[.i (chkP r.1)],rfl,λ_ w' hr=>Z5r w' r.1 x y (owns.reads (hr.at_ 0 rfl)) (owns.reads (hr.at_ 1 rfl)) (hbd.small hs),?_⟩;simp only[QQ,Nat.reduceAdd];refine⟨λh2 w' hr=>?_,λh2 w' hr=>?_⟩;(· refine⟨nilV,nilV,?_⟩;rw[decD,if_neg hL,hr0,if_neg hn,if_neg h2];exact⟨rfl,Z13 hr.mod 0⟩);(· refine⟨x,y,?_⟩;rw[decD,if_neg hL,hr0,if_neg hn,if_pos (qy9.1 h2)];exact⟨rfl,hr.mod,owns.reads (hr.at_ 0 rfl),owns.reads (hr.at_ 1 rfl),λk hk=>(hr.own _ (qy6 (i:=0) rfl) rfl k hk).resolve_right (by simp),λk hk=>(hr.own _ (qy6 (i:=1) rfl) rfl k hk).resolve_right (by simp)⟩)
theorem Zd3(k:Int):SmallP (pD_Q k):=⟨by simp,by simp,by simp,by simp,by simp,λa ha=>by cases ha⟩
theorem Zc0{s:List UInt8}(hs:s.length<=60000000):SmallP (decD s).1:=by
 unfold decD;split
 ·exact Zd3 0
 ·rename_i h;have hl0:(getL s 1).2.2=0:=qy9.1 λhh=>h (.inr hh);have:=(Z7f hl0).1.small hs;split
  ·exact Zd3 0
  ·split
   ·exact this
   ·exact Zd3 0
def Zd4(w w':World)(p:Pkt)(x y:Value):Prop:=Mod [] w w'/\owns w' x 69 [.str,.int .i64] (p.asks.map encA)/\owns w' y 3 [.int .i64] (p.codes.map Za)/\(∀k,Z3 x k->w.heap.size<=k)/\(∀k,Z3 y k->w.heap.size<=k)
theorem Z1z{w w':World}(h:Mod [] w w')(k:Int):Zd4 w w' (pD_Q k) nilV nilV:=⟨h,Z5s _ _ _,Z5s _ _ _,λk hk=>(by cases hk),λk hk=>(by cases hk)⟩
theorem Zc1(w:World)(s:List UInt8)(hs:s.length<=60000000):Calls Tryz.prog 10 #[.string ⟨s.toArray⟩] w λe w'=>∃x y,e=.returned (.tuple #[pV (decD s).1 x y,.int .i64 (decD s).2])/\Zd4 w w' (decD s).1 x y:=by
 refine Z1 (Z4 (J:=[.s s]) sxE_ok Tryz.func10 Z3m rfl rfl rfl ?_) rfl;simp only[QQ,Nat.reduceAdd];intro b1;refine⟨[.i (getL s 1).1,.i (getL s 1).2.1,.i (getL s 1).2.2],rfl,λ_ w' _=>Zac w' s 1 (by omega),?_⟩;simp only[QQ,Nat.reduceAdd];have hgb:=Zab s 1;refine⟨λh w' hr=>?_,λh=>?_⟩
 ·refine⟨nilV,nilV,?_⟩;rw[decD,if_pos h];exact⟨rfl,Z1z hr.mod 0⟩
 have hL:=h;have hl0:(getL s 1).2.2=0:=qy9.1 λhh=>h (.inr hh);have hbd:=(Z7f hl0).1;have hat:=Zd0 (a:=1) hl0;have hln:(1+(getL s 1).2.1).toNat<=s.length:=hat.2.1;have hz:Int.toNat 0=0:=rfl;have h4:(Int.toNat 4)=4:=rfl;have h1:(Int.toNat 1)=1:=rfl;simp only[hz,h4,h1];have hc:=Z60 (s.getD 0 0);generalize hcc:(s.getD 0 0).toNat=c at hc⊢
 have hrd:Z4t s (begP c) (1+(getL s 1).2.1).toNat false=Zo s:=by rw[Zo,hcc]
 have hbg:=Zgb s c hc;have hbz:(begP c).asks=[]/\(begP c).codes=[]:=by unfold begP;split<;>exact⟨rfl,rfl⟩
 have hat1:(1+(getL s 1).2.1)=((1+(getL s 1).2.1).toNat:Nat):=by omega
 refine⟨by have:=hat.1;omega,λb5=>?_⟩;rw[Zep c 4 (by omega)];have e16:c / 2 ^ 4=c / 16:=rfl;rw[e16];refine⟨λh3=>⟨by omega,by omega,λb6=>?_⟩,λh3=>⟨by omega,by omega,λb6=>?_⟩⟩
 ·have eb:begP c={ pD_Q 3 with dup:=decide (c / 8 % 2=1),qos:=((c / 2 % 4:Nat):Int),retain:=decide (c % 2=1) }:=by rw[begP,if_pos (by omega)];rfl
  intro w1 hr;have q1:rdAt w1 b6 s (1+(getL s 1).2.1).toNat false:=by have:=hr.at_ 0 rfl;simp only[Ent.holds,QQ,Nat.reduceAdd]at this;rw[hat1]at this;exact this
  have q2:pAt w1 b5 (begP c) nilV nilV:=by have:=hr.at_ 1 rfl;simp only[Ent.holds,QQ,Nat.reduceAdd,hz,h4,h1]at this;rw[hcc,Zep c 4 (by omega),Zep c 1 (by omega),Zqt c hc,Zqu c hc,Zqv c hc,e16,h3]at this;rw[eb];exact this
  refine(Zd1 w1 b6 b5 s _ false (begP c) q1 q2 (λe=>Zv.disj hr.sep (i:=0) (j:=1) rfl rfl (by decide) (.inl rfl) (k:=b6) (by simp only[Ent.fp,QQ,Nat.reduceAdd]) (by simp only[Ent.fp,QQ,Nat.reduceAdd];exact e)) hln (by omega) hbz hbg).mono ?_;rintro e w2 ⟨rfl,g1,m1,x,y,g2,o1,o2,fx,fy,fxy⟩;rw[hrd]at g1 g2 o1 o2;(generalize hr0:Zo s=r at g1 g2 o1 o2 hbd⊢);refine⟨[.s s,.i r.2.1,.b r.2.2,.i r.1.kind,.b r.1.dup,.b r.1.retain,.b r.1.clean,.b r.1.session,.i r.1.qos,.i r.1.id,.i r.1.keep,.i r.1.code,.s r.1.client,.s r.1.topic,.s r.1.payload,.v x,.r (r.1.asks.map encA),.v y,.r (r.1.codes.map Za)],rfl,rfl,m1,qy2.2 ⟨g1,qy2.2 ⟨g2,qy5 _⟩⟩,qy2.2 ⟨⟨o1,λk hk=>.inl (fx k hk)⟩,qy2.2 ⟨⟨o2,λk hk=>.inl (fy k hk)⟩,qy5 _⟩⟩,List.pairwise_cons.2 ⟨λe he _ k hk hk'=>by { rw[qy12]at he;subst he;exact fxy k hk hk' },List.pairwise_singleton _ _⟩,?_⟩;simp only[QQ,Nat.reduceAdd];refine⟨[.b (Z1h r.1.kind)],rfl,λ_ w' _=>Zag w' _,?_⟩;simp only[QQ,Nat.reduceAdd];refine⟨[.s (Zi r.1)],rfl,λ_ w' hr=>Z7e w' r.1 x y (owns.reads (hr.at_ 0 rfl)) (owns.reads (hr.at_ 1 rfl)) (hbd.byte hs),?_⟩;simp only[QQ,Nat.reduceAdd];refine⟨λh w' hr=>?_,λh=>?_⟩;(· have hn:r.2.2=true\/Z1h r.1.kind=false\/1<r.1.qos\/Zi r.1≠s:=h.elim (λh=>h.elim (λh=>h.elim .inl (λh=>.inr (.inl (by simpa using h)))) (λh=>.inr (.inr (.inl h)))) (λh=>.inr (.inr (.inr h)));refine⟨nilV,nilV,?_⟩;rw[decD,if_neg hL,hr0,if_pos hn];exact⟨rfl,Z1z hr.mod 0⟩);have hn:¬(r.2.2=true\/Z1h r.1.kind=false\/1<r.1.qos\/Zi r.1≠s):=(λhh=>hh.elim (λa=>h (.inl (.inl (.inl a)))) (λhh=>hh.elim (λa=>h (.inl (.inl (.inr (by simp[a]))))) (λhh=>hh.elim (λa=>h (.inl (.inr a))) (λa=>h (.inr a)))));refine⟨[.i (chkP r.1)],rfl,λ_ w' hr=>Z5r w' r.1 x y (owns.reads (hr.at_ 0 rfl)) (owns.reads (hr.at_ 1 rfl)) (hbd.small hs),?_⟩;simp only[QQ,Nat.reduceAdd];refine⟨λh2 w' hr=>?_,λh2 w' hr=>?_⟩;(· refine⟨nilV,nilV,?_⟩;rw[decD,if_neg hL,hr0,if_neg hn,if_neg h2];exact⟨rfl,Z1z hr.mod 0⟩);(· refine⟨x,y,?_⟩;rw[decD,if_neg hL,hr0,if_neg hn,if_pos (qy9.1 h2)];exact⟨rfl,hr.mod,hr.at_ 0 rfl,hr.at_ 1 rfl,λk hk=>(hr.own _ (qy6 (i:=0) rfl) rfl k hk).resolve_right (by simp),λk hk=>(hr.own _ (qy6 (i:=1) rfl) rfl k hk).resolve_right (by simp)⟩)
 ·have eb:begP c=pD_Q ((c / 16:Nat):Int):=by rw[begP,if_neg (by omega)]
  intro w1 hr;have q1:rdAt w1 b6 s (1+(getL s 1).2.1).toNat false:=by have:=hr.at_ 0 rfl;simp only[Ent.holds,QQ,Nat.reduceAdd]at this;rw[hat1]at this;exact this
  have q2:pAt w1 b5 (begP c) nilV nilV:=by have:=hr.at_ 1 rfl;simp only[Ent.holds,QQ,Nat.reduceAdd,hz,h4,h1]at this;rw[hcc,Zep c 4 (by omega),e16]at this;rw[eb];exact this
  refine(Zd1 w1 b6 b5 s _ false (begP c) q1 q2 (λe=>Zv.disj hr.sep (i:=0) (j:=1) rfl rfl (by decide) (.inl rfl) (k:=b6) (by simp only[Ent.fp,QQ,Nat.reduceAdd]) (by simp only[Ent.fp,QQ,Nat.reduceAdd];exact e)) hln (by omega) hbz hbg).mono ?_;rintro e w2 ⟨rfl,g1,m1,x,y,g2,o1,o2,fx,fy,fxy⟩;rw[hrd]at g1 g2 o1 o2;(generalize hr0:Zo s=r at g1 g2 o1 o2 hbd⊢);refine⟨[.s s,.i r.2.1,.b r.2.2,.i r.1.kind,.b r.1.dup,.b r.1.retain,.b r.1.clean,.b r.1.session,.i r.1.qos,.i r.1.id,.i r.1.keep,.i r.1.code,.s r.1.client,.s r.1.topic,.s r.1.payload,.v x,.r (r.1.asks.map encA),.v y,.r (r.1.codes.map Za)],rfl,rfl,m1,qy2.2 ⟨g1,qy2.2 ⟨g2,qy5 _⟩⟩,qy2.2 ⟨⟨o1,λk hk=>.inl (fx k hk)⟩,qy2.2 ⟨⟨o2,λk hk=>.inl (fy k hk)⟩,qy5 _⟩⟩,List.pairwise_cons.2 ⟨λe he _ k hk hk'=>by { rw[qy12]at he;subst he;exact fxy k hk hk' },List.pairwise_singleton _ _⟩,?_⟩;simp only[QQ,Nat.reduceAdd];refine⟨[.b (Z1h r.1.kind)],rfl,λ_ w' _=>Zag w' _,?_⟩;simp only[QQ,Nat.reduceAdd];refine⟨[.s (Zi r.1)],rfl,λ_ w' hr=>Z7e w' r.1 x y (owns.reads (hr.at_ 0 rfl)) (owns.reads (hr.at_ 1 rfl)) (hbd.byte hs),?_⟩;simp only[QQ,Nat.reduceAdd];refine⟨λh w' hr=>?_,λh=>?_⟩;(· have hn:r.2.2=true\/Z1h r.1.kind=false\/1<r.1.qos\/Zi r.1≠s:=h.elim (λh=>h.elim (λh=>h.elim .inl (λh=>.inr (.inl (by simpa using h)))) (λh=>.inr (.inr (.inl h)))) (λh=>.inr (.inr (.inr h)));refine⟨nilV,nilV,?_⟩;rw[decD,if_neg hL,hr0,if_pos hn];exact⟨rfl,Z1z hr.mod 0⟩);have hn:¬(r.2.2=true\/Z1h r.1.kind=false\/1<r.1.qos\/Zi r.1≠s):=(λhh=>hh.elim (λa=>h (.inl (.inl (.inl a)))) (λhh=>hh.elim (λa=>h (.inl (.inl (.inr (by simp[a]))))) (λhh=>hh.elim (λa=>h (.inl (.inr a))) (λa=>h (.inr a)))));refine⟨[.i (chkP r.1)],rfl,λ_ w' hr=>Z5r w' r.1 x y (owns.reads (hr.at_ 0 rfl)) (owns.reads (hr.at_ 1 rfl)) (hbd.small hs),?_⟩;simp only[QQ,Nat.reduceAdd];refine⟨λh2 w' hr=>?_,λh2 w' hr=>?_⟩;(· refine⟨nilV,nilV,?_⟩;rw[decD,if_neg hL,hr0,if_neg hn,if_neg h2];exact⟨rfl,Z1z hr.mod 0⟩);(· refine⟨x,y,?_⟩;rw[decD,if_neg hL,hr0,if_neg hn,if_pos (qy9.1 h2)];exact⟨rfl,hr.mod,hr.at_ 0 rfl,hr.at_ 1 rfl,λk hk=>(hr.own _ (qy6 (i:=0) rfl) rfl k hk).resolve_right (by simp),λk hk=>(hr.own _ (qy6 (i:=1) rfl) rfl k hk).resolve_right (by simp)⟩)
def pubP:Pkt:=⟨3,false,false,false,false,1,10,0,0,[],[97,47,98],[104,105],[],[]⟩
theorem Zd5:chkP pubP=0:=by decide +kernel
theorem Z8d:Zi pubP=[50,9,0,3,97,47,98,0,10,104,105]:=by decide +kernel
theorem Z5t:SmallP pubP:=⟨by decide,by decide,by decide,by decide,by decide,by decide⟩
theorem Zph:decD [50,9,0,3,97,47,98,0,10,104,105]=(pubP,0):=by rw[<- Z8d];exact Zme Zd5
theorem Zju(w:World):Calls Tryz.prog 22 #[] w λe w'=>e=.returned (pV pubP nilV nilV)/\Mod [] w w':=by refine Z1 (Z4 (J:=[]) sxE_ok Tryz.func22 Z5y rfl rfl rfl ?_) rfl;simp only[QQ,Nat.reduceAdd];exact λb w' hr=>⟨rfl,hr.mod⟩
theorem Zd6(w:World):Calls Tryz.prog 4 #[] w λe w'=>e=.returned (.bool true)/\Mod [] w w':=by
 refine Z1 (Z4 (J:=[]) sxE_ok Tryz.func4 Z2l rfl rfl rfl ?_) rfl;simp only[QQ,Nat.reduceAdd];intro w1 hr;refine(Zju w1).mono ?_;rintro e w2 ⟨rfl,m⟩;refine⟨[.i 3,.b false,.b false,.b false,.b false,.i 1,.i 10,.i 0,.i 0,.s [],.s [97,47,98],.s [104,105],.v nilV,.r [],.v nilV,.r []],rfl,rfl,m,qy5 _,qy2.2 ⟨⟨Zt _,λk hk=>absurd rfl hk.1⟩,qy2.2 ⟨⟨Zx _,λk hk=>absurd rfl hk.1⟩,qy5 _⟩⟩,Zp (by simp[Ent.wr]),?_⟩;simp only[QQ,Nat.reduceAdd];clear m hr;refine⟨[.s (if chkP pubP=0 then Zi pubP else[]),.i (chkP pubP)],rfl,λ_ w' hr=>Zek w' pubP nilV nilV (Zt _) (Zx _) Z5t,?_⟩;simp only[QQ,Nat.reduceAdd,Zd5,if_true,Z8d];intro w1 hr;refine(Zeq w1 [50,9,0,3,97,47,98,0,10,104,105] (by decide)).mono ?_;rintro e w2 ⟨x,y,rfl,m,rx,ry,fx,fy⟩;rw[Zph]at rx ry⊢;refine⟨[.i 3,.b false,.b false,.b false,.b false,.i 1,.i 10,.i 0,.i 0,.s [],.s [97,47,98],.s [104,105],.v x,.r [],.v y,.r [],.i 0],rfl,rfl,m,qy5 _,qy2.2 ⟨⟨rx,λk hk=>.inl (fx k hk.2)⟩,qy2.2 ⟨⟨ry,λk hk=>.inl (fy k hk.2)⟩,qy5 _⟩⟩,Zp (by simp[Ent.wr]),?_⟩;simp only[QQ,Nat.reduceAdd];clear m hr;intro bq;refine⟨λ_=>?_,λh=>absurd ⟨trivial,trivial⟩ h⟩;intro w1 hr;refine(Zju w1).mono ?_;rintro e w2 ⟨rfl,m⟩;refine⟨[.i 3,.b false,.b false,.b false,.b false,.i 1,.i 10,.i 0,.i 0,.s [],.s [97,47,98],.s [104,105],.v nilV,.r [],.v nilV,.r []],rfl,rfl,m,qy5 _,qy2.2 ⟨⟨Zt _,λk hk=>absurd rfl hk.1⟩,qy2.2 ⟨⟨Zx _,λk hk=>absurd rfl hk.1⟩,qy5 _⟩⟩,Zp (by simp[Ent.wr]),?_⟩;simp only[QQ,Nat.reduceAdd];clear m hr;refine⟨[.i (chkP pubP)],rfl,λ_ w' hr=>Z5r w' pubP nilV nilV (Zt _) (Zx _) Z5t,?_⟩;simp only[QQ,Nat.reduceAdd,Zd5];refine⟨⟨λ_=>?_,λh=>absurd ⟨trivial,trivial⟩ h⟩,⟨λ_=>?_,λh=>absurd ⟨trivial,trivial⟩ h⟩⟩;all_goals
  intro w1 hr;refine(Zju w1).mono ?_;rintro e w2 ⟨rfl,m⟩;refine⟨[.i 3,.b false,.b false,.b false,.b false,.i 1,.i 10,.i 0,.i 0,.s [],.s [97,47,98],.s [104,105],.v nilV,.r [],.v nilV,.r []],rfl,rfl,m,qy5 _,qy2.2 ⟨⟨Zt _,λk hk=>absurd rfl hk.1⟩,qy2.2 ⟨⟨Zx _,λk hk=>absurd rfl hk.1⟩,qy5 _⟩⟩,Zp (by simp[Ent.wr]),?_⟩;simp only[QQ,Nat.reduceAdd];clear m hr;refine⟨[.b (decide (pubP=pubP))],rfl,λ_ w' hr=>Z3z w' pubP pubP x y nilV nilV (by first|exact hr.at_ 5 rfl|exact hr.at_ 4 rfl) (by first|exact hr.at_ 6 rfl|exact hr.at_ 5 rfl) (Zt _) (Zx _) Z5t,?_⟩;simp only[QQ,Nat.reduceAdd];exact λw' hr=>⟨by simp,hr.mod⟩
section
variable (w:World) (p q:Pkt) (u v x y:Value)
end
end Go.Proofs.Y
namespace Go.Proofs.Y
open Go.Sx
def rdsA(l:List (Value×List Kd×List (List Value))):Asrt where
 holds w:=∀t∈l,reads w t.1 t.2.1 t.2.2
 fp k:=∃t∈l,t.2.2.flatten≠[]/\Z3 t.1 k
 stable:=λw w' h hh t ht=>(hh t ht).stable λk hk=>h k ⟨t,ht,hk⟩
 bound:=λw hh k ⟨t,ht,hk⟩=>Ent.bound (J:=[.v t.1,.r t.2.2]) (e:=.rd 0 t.2.1 (.var 1)) (hh t ht) hk
abbrev Z24:=Pkt×Value×Value
abbrev xD:Z24:=(pD_Q 0,nilV,nilV)
def Z3a(t:Z24):List Value:=[.int .i64 t.1.kind,.bool t.1.dup,.bool t.1.retain,.bool t.1.clean,.bool t.1.session,.int .i64 t.1.qos,.int .i64 t.1.id,.int .i64 t.1.keep,.int .i64 t.1.code,.string ⟨t.1.client.toArray⟩,.string ⟨t.1.topic.toArray⟩,.string ⟨t.1.payload.toArray⟩,t.2.1,t.2.2]
abbrev KP:List Kd:=[.int .i64,.bool,.bool,.bool,.bool,.int .i64,.int .i64,.int .i64,.int .i64,.str,.str,.str,.oth,.oth]
abbrev Zmq(w:World)(v:Value)(l:List Z24):Prop:=reads w v KP (l.map Z3a)
def Zmr(t:Z24):List (Value×List Kd×List (List Value)):=[(t.2.1,[.str,.int .i64],t.1.asks.map encA),(t.2.2,[.int .i64],t.1.codes.map Za)]
def Z20(l:List Z24):Asrt:=rdsA (l.flatMap Zmr)
theorem Zer{l:List Z24}{w:World}(h:(Z20 l).holds w){t:Z24}(ht:t∈l):Z38 w t.2.1 t.1.asks/\Z2d w t.2.2 t.1.codes :=
 ⟨h (t.2.1,[.str,.int .i64],t.1.asks.map encA) (List.mem_flatMap.2 ⟨t,ht,by simp[Zmr]⟩),h (t.2.2,[.int .i64],t.1.codes.map Za) (List.mem_flatMap.2 ⟨t,ht,by simp[Zmr]⟩)⟩
theorem Zi7(w:World):(Z20 []).holds w:=λt ht=>by cases ht
theorem Zes(k:Nat):¬(Z20 []).fp k:=λ⟨t,ht,_⟩=>by cases ht
theorem Zap{l:List Z24}{t:Z24}{w:World}(h:(Z20 l).holds w)(h1:Z38 w t.2.1 t.1.asks)(h2:Z2d w t.2.2 t.1.codes):(Z20 (l++[t])).holds w:=by
 intro x hx;rw[List.flatMap_append,qy13]at hx;rcases hx with hx|hx
 ·exact h x hx
 ·simp only[List.flatMap_cons,List.flatMap_nil,List.append_nil,Zmr,List.mem_cons,List.not_mem_nil,or_false]at hx;rcases hx with rfl|rfl
  ·exact h1
  ·exact h2
theorem Zet{l:List Z24}{t:Z24}{k:Nat}(h:(Z20 (l++[t])).fp k):(Z20 l).fp k\/((t.1.asks.map encA).flatten≠[]/\Z3 t.2.1 k)\/((t.1.codes.map Za).flatten≠[]/\Z3 t.2.2 k):=by
 obtain⟨x,hx,hk⟩:=h;rw[List.flatMap_append,qy13]at hx;rcases hx with hx|hx
 ·exact .inl ⟨x,hx,hk⟩
 ·simp only[List.flatMap_cons,List.flatMap_nil,List.append_nil,Zmr,List.mem_cons,List.not_mem_nil,or_false]at hx;rcases hx with rfl|rfl
  ·exact .inr (.inl hk)
  ·exact .inr (.inr hk)
theorem Zqw{l:List Z24}{i:Nat}(h:i<l.length):(l.map Z3a).getD i []=Z3a (l.getD i xD):=by rw[qy1,qy1,List.getElem?_map,qy7 h];rfl
def Z25(s:List UInt8):Int×Int :=
 if s=[]then(0,8)
 else if(getL s 1).2.2≠0 then(0,(getL s 1).2.2)
 else if 600<1+(getL s 1).2.1+(getL s 1).1 then(0,2)
 else if(s.length:Int)<1+(getL s 1).2.1+(getL s 1).1 then(0,8)
 else(1+(getL s 1).2.1+(getL s 1).1,0)
def Z14(s:List UInt8):Pkt×Int×Int :=
 if(Z25 s).2≠0 then(pD_Q 0,0,(Z25 s).2)else((decD (s.take (Z25 s).1.toNat)).1,(Z25 s).1,(decD (s.take (Z25 s).1.toNat)).2)
def Z40:Nat->List UInt8->List Pkt->List Pkt×List UInt8×Int
 | 0,s,out=>(out,s,0)
 | f+1,s,out =>
  if(Z14 s).2.2=0 then Z40 f (s.drop (Z14 s).2.1.toNat) (out++[(Z14 s).1])
  else if(Z14 s).2.2=8 then(out,s,0)else(out,[],(Z14 s).2.2)
def feed(s:List UInt8):List Pkt×List UInt8×Int:=Z40 (s.length+1) s []
theorem Zd7{s:List UInt8}(h:(Z25 s).2=0):s≠[]/\(getL s 1).2.2=0/\(Z25 s).1=1+(getL s 1).2.1+(getL s 1).1/\1<=(Z25 s).1/\(Z25 s).1<=s.length/\(Z25 s).1<=600:=by
 have hb:=Zab s 1;unfold Z25 at h⊢;split at h
 ·simp at h
 ·rename_i h0;rw[if_neg h0];split at h
  ·rename_i h1;exact absurd h h1
  ·rename_i h1;rw[if_neg h1];split at h
   ·simp at h
   ·rename_i h2;rw[if_neg h2];split at h
    ·simp at h
    ·rename_i h3;rw[if_neg h3];exact⟨h0,by omega,rfl,by simp only;omega,by simp only;omega,by simp only;omega⟩
theorem Zi8{s:List UInt8}(h:(Z14 s).2.2=0):(Z25 s).2=0/\(Z14 s).2.1=(Z25 s).1/\(Z14 s).1=(decD (s.take (Z25 s).1.toNat)).1/\(decD (s.take (Z25 s).1.toNat)).2=0:=by
 unfold Z14 at h⊢;split at h
 ·rename_i h0;exact absurd h h0
 ·rename_i h0;rw[if_neg h0];exact⟨by omega,rfl,rfl,h⟩
theorem Z7g{s:List UInt8}(h:(Z14 s).2.2=0):1<=(Z14 s).2.1/\(Z14 s).2.1<=s.length:=by obtain⟨h1,h2,-,-⟩:=Zi8 h;have:=Zd7 h1;omega
theorem Zc2:∀(f g:Nat) (s:List UInt8) (out:List Pkt),s.length<f->s.length<g->Z40 f s out=Z40 g s out
 | 0,_,s,_,h,_=>by omega
 | _+1,0,s,_,_,h=>by omega
 | f+1,g+1,s,out,h1,h2=>by
  rw[Z40,Z40];split
  ·rename_i h;have hb:=Z7g h;exact Zc2 f g _ _ (by rw[List.length_drop];omega) (by rw[List.length_drop];omega)
  ·rfl
theorem Z8e{s:List UInt8}{out:List Pkt}(h:(Z14 s).2.2=0):Z40 (s.length+1) s out=Z40 ((s.drop (Z14 s).2.1.toNat).length+1) (s.drop (Z14 s).2.1.toNat) (out++[(Z14 s).1]):=by have hb:=Z7g h;rw[Z40,if_pos h];exact Zc2 _ _ _ _ (by rw[List.length_drop];omega) (by omega)
theorem Zqx(w:World)(s:List UInt8)(hs:s.length<4611686018427387904):Calls Tryz.prog 89 #[.string ⟨s.toArray⟩] w λe w'=>e=.returned (.tuple #[.int .i64 (Z25 s).1,.int .i64 (Z25 s).2])/\Mod [] w w':=by refine Z1 (Z4 (J:=[.s s]) sxE_ok Tryz.func89 Za8 rfl rfl rfl ?_) rfl;have hb:=Zab s 1;simp only[QQ,Nat.reduceAdd];refine⟨λh w' hr=>⟨by rw[Z25,if_pos h],hr.mod⟩,λh=>?_⟩;rw[Z25,if_neg h];refine⟨[.i (getL s 1).1,.i (getL s 1).2.1,.i (getL s 1).2.2],rfl,λ_ w' _=>Zac w' s 1 (by omega),?_⟩;simp only[QQ,Nat.reduceAdd];refine⟨by omega,by omega,by omega,by omega,λh1 w' hr=>⟨by rw[if_pos h1],hr.mod⟩,λh1=>?_⟩;rw[if_neg h1];refine⟨λh2 w' hr=>⟨by rw[if_pos h2],hr.mod⟩,λh2=>?_⟩;rw[if_neg h2];exact⟨λh3 w' hr=>⟨by rw[if_pos h3],hr.mod⟩,λh3 w' hr=>⟨by rw[if_neg h3],hr.mod⟩⟩
theorem Ztw(w:World)(s:List UInt8)(hs:s.length<=60000000):Calls Tryz.prog 46 #[.string ⟨s.toArray⟩] w λe w'=>∃x y,e=.returned (.tuple #[pV (Z14 s).1 x y,.int .i64 (Z14 s).2.1,.int .i64 (Z14 s).2.2])/\Zd2 w w' (Z14 s).1 x y:=by
 refine Z1 (Z4 (J:=[.s s]) sxE_ok Tryz.func46 Za3 rfl rfl rfl ?_) rfl;simp only[QQ,Nat.reduceAdd];intro b1;refine⟨[.i (Z25 s).1,.i (Z25 s).2],rfl,λ_ w' _=>Zqx w' s (by omega),?_⟩;simp only[QQ,Nat.reduceAdd];refine⟨λh w' hr=>⟨nilV,nilV,?_⟩,λh=>?_⟩
 ·rw[Z14,if_pos h];exact⟨rfl,Z13 hr.mod 0⟩
 have hz:=Zd7 (qy9.1 h);rw[Z14,if_neg h];refine⟨by omega,by omega,?_⟩;have hlt:(s.take (Z25 s).1.toNat).length<=60000000:=by rw[List.length_take];omega
 intro w1 hr;refine(Zeq w1 (s.take (Z25 s).1.toNat) hlt).mono ?_;generalize decD (s.take (Z25 s).1.toNat)=r
 obtain⟨q,er⟩:=r;rintro e w2 ⟨x,y,rfl,m,rx,ry,fx,fy⟩;refine⟨[.i q.kind,.b q.dup,.b q.retain,.b q.clean,.b q.session,.i q.qos,.i q.id,.i q.keep,.i q.code,.s q.client,.s q.topic,.s q.payload,.v x,.r (q.asks.map encA),.v y,.r (q.codes.map Za),.i er],rfl,rfl,m,qy5 _,qy2.2 ⟨⟨rx,λk hk=>.inl (fx k hk.2)⟩,qy2.2 ⟨⟨ry,λk hk=>.inl (fy k hk.2)⟩,qy5 _⟩⟩,Zp (by simp[Ent.wr]),?_⟩;simp only[QQ,Nat.reduceAdd];have hw:=hr.mod.size;clear m hr;intro b2;exact λw' hr=>⟨x,y,rfl,hr.mod,hr.at_ 1 rfl,hr.at_ 2 rfl,λk hk=>Nat.le_trans hw (fx k hk),λk hk=>Nat.le_trans hw (fy k hk)⟩
def Zpi(w w':World)(x:Value)(l:List Z24):Prop:=Mod [] w w'/\Zmq w' x l/\(Z20 l).holds w'/\(∀k,Z3 x k->w.heap.size<=k)/\∀k,(Z20 l).fp k->w.heap.size<=k
