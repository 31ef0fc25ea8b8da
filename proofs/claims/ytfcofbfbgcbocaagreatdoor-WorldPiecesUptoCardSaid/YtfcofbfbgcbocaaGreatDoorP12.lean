/- By an AI agent. -/
import Derived.Test.YtfcofbfbgcbocaaGreatDoorP11
import Derived.Shelf.RegionOpenPlain
import Derived.Lib.Strings
import Derived.Lib.Slices
import Derived.Lib.Walk
import Derived.Lib.Builder
import Derived.Lib.AppendStr
import Derived.Lib.UnsafeStr
set_option linter.all false
set_option maxHeartbeats 20000000
namespace Go.Proofs.Y
open Go.Sx
theorem Z2d{J:List V}{es:List Ent}(h:∀e∈es,e.wr=false):Zo J es:=by refine List.pairwise_iff_forall_sublist.2 λ{a b} hs hw=>?_;have h1:=h a (hs.subset (by simp));have h2:=h b (hs.subset (by simp));rw[h1,h2]at hw;simp at hw
section
variable (w:World) (p:Pkt) (u v:Value) (hu:Z3h w u p.asks) (hv:Z2t w v p.codes) (hs:SmallP p)
include hu hv
theorem Z193:Calls Tryz.prog 95 #[pV p u v] w λe w'=>∃x y,e=.returned (pV (Z21 p) x y)/\Z3h w' x (Z21 p).asks/\Z2t w' y (Z21 p).codes /\ (x=u/\(Z21 p).asks=p.asks\/(Z21 p).asks=[])/\(y=v/\(Z21 p).codes=p.codes\/(Z21 p).codes=[])/\Mod [] w w':=by
 refine Z2 (Z3 (J:=[.i p.kind,.b p.dup,.b p.retain,.b p.clean,.b p.session,.i p.qos,.i p.id,.i p.keep,.i p.code,.s p.client,.s p.topic,.s p.payload,.v u,.r (p.asks.map encA),.v v,.r (p.codes.map Zg)]) sxE_ok Tryz.func95 Zd7 rfl rfl (Rel.start2 (by simp[Ent.holds,Ent.wr,hu,hv,X.ev])) rfl rfl ?_) rfl;simp only[QQ,Nat.reduceAdd];intro b1 b2;have g4:∀q:Pkt,q.kind=p.kind->p.kind≠1->p.kind≠2->p.kind≠3->(p.kind=4\/p.kind=11)->Z21 p={ p with id:=0 }:=λq _ h1 h2 h3 h=>by rw[Z21,if_neg h1,if_neg h2,if_neg h3,if_pos h]
 have g8:p.kind≠1->p.kind≠2->p.kind≠3->¬(p.kind=4\/p.kind=11)->(p.kind=8\/p.kind=10)->Z21 p={ p with id:=0,asks:=[] }:=λh1 h2 h3 h4 h=>by rw[Z21,if_neg h1,if_neg h2,if_neg h3,if_neg h4,if_pos h]
 refine⟨λh1 w' hr=>?_,λh1=>⟨λh2 w' hr=>?_,λh2=>⟨λh3 w' hr=>?_,λh3=>⟨λh4 w' hr=>?_,λh4=>⟨λh5 w' hr=>?_,λh5=>⟨λh6 w' hr=>?_,λh6=>⟨λh7 w' hr=>?_,λh7=>⟨λh8 w' hr=>?_,λh8 w' hr=>?_⟩⟩⟩⟩⟩⟩⟩⟩
 ·have e:Z21 p={ p with client:=[],clean:=false,keep:=0 }:=by rw[Z21,if_pos h1]
  rw[e];exact⟨u,v,rfl,hr.at_ 2 rfl,hr.at_ 3 rfl,.inl ⟨rfl,rfl⟩,.inl ⟨rfl,rfl⟩,hr.mod⟩
 ·have e:Z21 p={ p with code:=0,session:=false }:=by rw[Z21,if_neg h1,if_pos h2]
  rw[e];exact⟨u,v,rfl,hr.at_ 2 rfl,hr.at_ 3 rfl,.inl ⟨rfl,rfl⟩,.inl ⟨rfl,rfl⟩,hr.mod⟩
 ·have e:Z21 p={ p with dup:=false,qos:=0,retain:=false,topic:=[],payload:=[],id:=0 }:=by rw[Z21,if_neg h1,if_neg h2,if_pos h3]
  rw[e];exact⟨u,v,rfl,hr.at_ 2 rfl,hr.at_ 3 rfl,.inl ⟨rfl,rfl⟩,.inl ⟨rfl,rfl⟩,hr.mod⟩
 ·rw[g4 p rfl h1 h2 h3 (.inl h4)];exact⟨u,v,rfl,hr.at_ 2 rfl,hr.at_ 3 rfl,.inl ⟨rfl,rfl⟩,.inl ⟨rfl,rfl⟩,hr.mod⟩
 ·rw[g4 p rfl h1 h2 h3 (.inr h5)];exact⟨u,v,rfl,hr.at_ 2 rfl,hr.at_ 3 rfl,.inl ⟨rfl,rfl⟩,.inl ⟨rfl,rfl⟩,hr.mod⟩
 ·rw[g8 h1 h2 h3 (by omega) (.inl h6)];exact⟨.slice none 0 0,v,rfl,Z20 _,hr.at_ 3 rfl,.inr rfl,.inl ⟨rfl,rfl⟩,hr.mod⟩
 ·rw[g8 h1 h2 h3 (by omega) (.inr h7)];exact⟨.slice none 0 0,v,rfl,Z20 _,hr.at_ 3 rfl,.inr rfl,.inl ⟨rfl,rfl⟩,hr.mod⟩
 ·have e:Z21 p={ p with id:=0,codes:=[] }:=by rw[Z21,if_neg h1,if_neg h2,if_neg h3,if_neg (by omega),if_neg (by omega),if_pos h8]
  rw[e];exact⟨u,.slice none 0 0,rfl,hr.at_ 2 rfl,Z2f _,.inl ⟨rfl,rfl⟩,.inr rfl,hr.mod⟩
 ·have e:Z21 p=p:=by rw[Z21,if_neg h1,if_neg h2,if_neg h3,if_neg (by omega),if_neg (by omega),if_neg h8]
  rw[e];exact⟨u,v,rfl,hr.at_ 2 rfl,hr.at_ 3 rfl,.inl ⟨rfl,rfl⟩,.inl ⟨rfl,rfl⟩,hr.mod⟩
include hs
theorem Zdr:Calls Tryz.prog 99 #[pV p u v] w λe w'=>e=.returned (.int .i64 (Z23 p))/\Mod [] w w':=by
 refine Z2 (Z3 (J:=[.i p.kind,.b p.dup,.b p.retain,.b p.clean,.b p.session,.i p.qos,.i p.id,.i p.keep,.i p.code,.s p.client,.s p.topic,.s p.payload,.v u,.r (p.asks.map encA),.v v,.r (p.codes.map Zg)]) sxE_ok Tryz.func99 Zbq rfl rfl (Rel.start2 (by simp[Ent.holds,Ent.wr,hu,hv,X.ev])) rfl rfl ?_) rfl;simp only[QQ,Nat.reduceAdd];intro b;refine⟨λh1=>?_,λh1=>⟨λh2=>?_,λh2=>⟨λh3=>?_,λh3=>⟨λh4=>?_,λh4=>⟨λh5=>?_,λh5=>⟨λh6=>?_,λh6 w' hr=>⟨?_,hr.mod⟩⟩⟩⟩⟩⟩⟩
 ·refine⟨[.i (Zjs p)],rfl,λ_ w' hr=>Zue w' p u v (hr.at_ 1 rfl) (hr.at_ 2 rfl) hs,?_⟩;simp only[QQ,Nat.reduceAdd];exact λw' hr=>⟨by rw[Z23,if_pos h1],hr.mod⟩
 ·refine⟨[.i (Z5c p)],rfl,λ_ w' hr=>Zud w' p u v (hr.at_ 1 rfl) (hr.at_ 2 rfl),?_⟩;simp only[QQ,Nat.reduceAdd];exact λw' hr=>⟨by rw[Z23,if_neg h1,if_pos h2],hr.mod⟩
 ·refine⟨[.i (pubE p)],rfl,λ_ w' hr=>Zhz w' p u v (hr.at_ 1 rfl) (hr.at_ 2 rfl) hs,?_⟩;simp only[QQ,Nat.reduceAdd];exact λw' hr=>⟨by rw[Z23,if_neg h1,if_neg h2,if_pos h3],hr.mod⟩
 ·refine⟨[.i (Zgv p)],rfl,λ_ w' hr=>Zyi w' p u v (hr.at_ 1 rfl) (hr.at_ 2 rfl) hs,?_⟩;simp only[QQ,Nat.reduceAdd];exact λw' hr=>⟨by rw[Z23,if_neg h1,if_neg h2,if_neg h3,if_pos (.inl h4)],hr.mod⟩
 ·refine⟨[.i (Zgv p)],rfl,λ_ w' hr=>Zyi w' p u v (hr.at_ 1 rfl) (hr.at_ 2 rfl) hs,?_⟩;simp only[QQ,Nat.reduceAdd];exact λw' hr=>⟨by rw[Z23,if_neg h1,if_neg h2,if_neg h3,if_pos (.inr h5)],hr.mod⟩
 ·refine⟨[.i (Zaw p)],rfl,λ_ w' hr=>Z141 w' p u v (hr.at_ 1 rfl) (hr.at_ 2 rfl) hs,?_⟩;simp only[QQ,Nat.reduceAdd];exact λw' hr=>⟨by rw[Z23,if_neg h1,if_neg h2,if_neg h3,if_neg (by omega),if_pos h6],hr.mod⟩
 ·rw[Z23,if_neg h1,if_neg h2,if_neg h3,if_neg (by omega),if_neg h6]
theorem Zds:Calls Tryz.prog 48 #[pV p u v] w λe w'=>e=.returned (.int .i64 (chkP p))/\Mod [] w w':=by
 refine Z2 (Z3 (J:=[.i p.kind,.b p.dup,.b p.retain,.b p.clean,.b p.session,.i p.qos,.i p.id,.i p.keep,.i p.code,.s p.client,.s p.topic,.s p.payload,.v u,.r (p.asks.map encA),.v v,.r (p.codes.map Zg)]) sxE_ok Tryz.func48 Zbw rfl rfl (Rel.start2 (by simp[Ent.holds,Ent.wr,hu,hv,X.ev])) rfl rfl ?_) rfl;simp only[QQ,Nat.reduceAdd];intro b;refine⟨[.b (Z6t p.kind)],rfl,λ_ w' _=>Zou w' _,?_⟩;simp only[QQ,Nat.reduceAdd];refine⟨λh w' hr=>⟨by rw[chkP,if_neg h],hr.mod⟩,λh=>?_⟩;have h:=qy9.1 h;rw[chkP,if_pos h];intro w1 hr;refine(Z193 w1 p u v (hr.at_ 1 rfl) (hr.at_ 2 rfl)).mono ?_;rintro e w2 ⟨x,y,rfl,rx,ry,ex,ey,m2⟩;generalize hq:Z21 p=q at rx ry ex ey⊢
 have hsq:SmallP q:=by rw[<- hq];exact hs.bare
 refine⟨[.i q.kind,.b q.dup,.b q.retain,.b q.clean,.b q.session,.i q.qos,.i q.id,.i q.keep,.i q.code,.s q.client,.s q.topic,.s q.payload,.v x,.r (q.asks.map encA),.v y,.r (q.codes.map Zg)],rfl,rfl,m2,qy5 _,qy2.2 ⟨⟨rx,λk hk=>.inr (.inl ⟨rfl,?_⟩)⟩,qy2.2 ⟨⟨ry,λk hk=>.inr (.inl ⟨rfl,?_⟩)⟩,qy5 _⟩⟩,Z2d (by simp[Ent.wr]),?_⟩
 ·rcases ex with⟨rfl,e1⟩|e1
  ·refine⟨_,qy10 _ (qy8 ..),rfl,?_⟩;simp only[Ent.fp,QQ,Nat.reduceAdd]at hk⊢;rw[e1]at hk;exact hk
  ·simp only[Ent.fp,QQ,Nat.reduceAdd,e1]at hk;exact absurd rfl hk.1
 ·rcases ey with⟨rfl,e1⟩|e1
  ·refine⟨_,qy10 _ (qy10 _ (qy8 ..)),rfl,?_⟩;simp only[Ent.fp,QQ,Nat.reduceAdd]at hk⊢;rw[e1]at hk;exact hk
  ·simp only[Ent.fp,QQ,Nat.reduceAdd,e1]at hk;exact absurd rfl hk.1
 simp only[QQ,Nat.reduceAdd];refine⟨[.b (Z8z q)],rfl,λ_ w' hr=>Z140 w' q x y (hr.at_ 0 rfl) (hr.at_ 1 rfl) hsq,?_⟩;simp only[QQ,Nat.reduceAdd];refine⟨λh w' hr=>⟨by rw[if_neg h],hr.mod⟩,λh=>?_⟩;have h:=qy9.1 h;rw[if_pos h];refine⟨λh1=>?_,λh1=>?_⟩
 ·refine⟨[.i (pubE p)],rfl,λ_ w' hr=>Zhz w' p u v (hr.at_ 3 rfl) (hr.at_ 4 rfl) hs,?_⟩;simp only[QQ,Nat.reduceAdd];refine⟨λh2 w' hr=>⟨by rw[if_pos ⟨h1,h2⟩],hr.mod⟩,λh2=>?_⟩;have hn:¬(p.kind=3/\pubE p≠0):=λhh=>h2 hh.2;refine⟨[.b (idB p)],rfl,λ_ w' hr=>Z13z w' p u v (hr.at_ 3 rfl) (hr.at_ 4 rfl),?_⟩;simp only[QQ,Nat.reduceAdd];refine⟨λh3=>⟨λh4 w' hr=>⟨?_,hr.mod⟩,λh4=>?_⟩,λh3=>?_⟩;(· rw[if_neg (by assumption),if_pos ⟨h3,h4⟩]);(· rw[if_neg (by assumption),if_neg (λhh=>h4 hh.2)];refine⟨[.i (Z23 p)],rfl,λ_ w' hr=>Zdr w' p u v (hr.at_ 3 rfl) (hr.at_ 4 rfl) hs,?_⟩;simp only[QQ,Nat.reduceAdd];exact λw' hr=>⟨by trivial,hr.mod⟩);(· rw[if_neg (by assumption),if_neg (λhh=>h3 hh.1)];refine⟨[.i (Z23 p)],rfl,λ_ w' hr=>Zdr w' p u v (hr.at_ 3 rfl) (hr.at_ 4 rfl) hs,?_⟩;simp only[QQ,Nat.reduceAdd];exact λw' hr=>⟨by trivial,hr.mod⟩)
 ·have hn:¬(p.kind=3/\pubE p≠0):=λhh=>h1 hh.1;refine⟨[.b (idB p)],rfl,λ_ w' hr=>Z13z w' p u v (hr.at_ 3 rfl) (hr.at_ 4 rfl),?_⟩;simp only[QQ,Nat.reduceAdd];refine⟨λh3=>⟨λh4 w' hr=>⟨?_,hr.mod⟩,λh4=>?_⟩,λh3=>?_⟩;(· rw[if_neg (by assumption),if_pos ⟨h3,h4⟩]);(· rw[if_neg (by assumption),if_neg (λhh=>h4 hh.2)];refine⟨[.i (Z23 p)],rfl,λ_ w' hr=>Zdr w' p u v (hr.at_ 3 rfl) (hr.at_ 4 rfl) hs,?_⟩;simp only[QQ,Nat.reduceAdd];exact λw' hr=>⟨by trivial,hr.mod⟩);(· rw[if_neg (by assumption),if_neg (λhh=>h3 hh.1)];refine⟨[.i (Z23 p)],rfl,λ_ w' hr=>Zdr w' p u v (hr.at_ 3 rfl) (hr.at_ 4 rfl) hs,?_⟩;simp only[QQ,Nat.reduceAdd];exact λw' hr=>⟨by trivial,hr.mod⟩)
end
end Go.Proofs.Y
namespace Go.Proofs.Y
open Go.Sx Go.RowKit
theorem Zz5:(Tryz.prog.info? 160).map (·.size)=some 2:=by kernel_rfl
theorem Z194:(Tryz.prog.info? 5).map (λi=>(i.zero,i.size,i.bytes))=some (some (.int .u8 0),1,1):=by kernel_rfl
noncomputable def Z195(ty n:Nat):Bool:=liesAt Tryz.prog Tryz.prog.depth ty (n / Tryz.prog.cellsOf ty) 0 160 1
set_option maxRecDepth 100000 in
theorem Zb1(b:Nat)(w:World)(h0:w.cell? ⟨b,0,none⟩=some (.pointer (some ⟨b,0,none⟩))) : Calls Tryz.prog 177 #[.pointer (some ⟨b,0,none⟩)] w λe w'=>e=.returned (.tuple #[])/\w'=w:=by
 obtain⟨j,hj,_⟩:=Option.map_eq_some_iff.1 Zz5;go_enter Tryz.func177,Tryz.ntmps177
 go_wp2
 rw[Lib.run_neq_ptr_same w _ Tryz.underlying157 hj];go_wp2
 go_end0
 exact⟨rfl,rfl⟩
set_option maxRecDepth 100000 in
theorem Z9l(ty n b:Nat)(w:World)(hT:Z195 ty n=true)(hn:0<n)(h0:w.cell? ⟨b,0,none⟩=some (.pointer none))(hsh:w.shape? b=some (ty,n))(hfz:w.frozen? ⟨b,0,none⟩=false) : Calls Tryz.prog 177 #[.pointer (some ⟨b,0,none⟩)] w λe w'=>e=.returned (.tuple #[])/\w'=w.setCell ⟨b,0,none⟩ (.pointer (some ⟨b,0,none⟩)):=by
 obtain⟨j,hj,hjs⟩:=Option.map_eq_some_iff.1 Zz5;go_enter Tryz.func177,Tryz.ntmps177
 go_wp2
 rw[Lib.run_to_unsafe w ⟨b,0,none⟩ Tryz.underlying157 Tryz.underlying241 hj (by rw[hjs];decide) hsh hn];simp only[Result.andThen];rw[Oper.upon_value];go_wp2
 rw[run_callFunc_extern Tryz.func202 (by kernel_rfl) (by kernel_rfl) (by kernel_rfl) (e:=Extern.AbiNoEscape.same) (by kernel_rfl)];rw[Lib.run_noEscape];simp only[Result.andThen];rw[Oper.upon_value];go_wp2
 rw[Lib.run_from_unsafe w ⟨b,0,none⟩ Tryz.underlying241 Tryz.underlying157 hj hsh hT];simp only[Result.andThen];rw[Oper.upon_value];go_wp2
 go_end0
 exact⟨rfl,rfl⟩
theorem Z14j:∃i0,Tryz.prog.info? 5=some i0/\i0.zero=some (.int .u8 0)/\i0.size=1/\i0.bytes=1:=by obtain⟨i0,hi,h⟩:=Option.map_eq_some_iff.1 Z194;simp only[Prod.mk.injEq]at h;exact⟨i0,hi,h.1,h.2.1,h.2.2⟩
theorem Z2y{w:World}{b ty:Nat}{cs:List Value}(h:w.heap[b]?=some (.cells cs.toArray ty (0,0)))(j:Nat):w.cell? ⟨b,j,none⟩=cs[j]?:=by rw[Lib.cell_of_heap h];simp
theorem Zrk(s:List UInt8):(s.map λb=>[Value.int .u8 (b.toNat:Int)]).flatten=Lib.strCells ⟨s.toArray⟩:=by simp[Lib.strCells];induction s<;>simp_all
theorem Zz6(s:List UInt8):∀r∈s.map λb=>[Value.int .u8 (b.toNat:Int)],rowOk [.int .u8] r:=by intro r hr;obtain⟨b,-,rfl⟩:=List.mem_map.1 hr;exact⟨⟨_,rfl⟩,trivial⟩
section
variable {P:Program} {w:World}
theorem Zuo(t u ty e:TypeId)(i:TypeInfo)(ht:P.underlying t=some (.slice e))(hu:P.underlying u=some .string)(hi:P.info? e=some i)(hz:i.zero=some (.int .u8 0)) (hsize:i.size=1) (hby:i.bytes=1) (v:Value) (n:Nat) (xs:List Value) (hown:w.ownsRow 0 e 1 v n xs) (s:ByteArray) (hb:n+s.size<=140737488355328) : ∃v' w',(Builtin.append_ #[t,u] ty #[v,.string s]).run P w=.ok v' w'/\w'.ownsRow 0 e 1 v' (n+s.size) (xs++Lib.strCells s)/\w.grownBy w' v.ownBlock /\ ∀k,v'.ownBlock=some k->v.ownBlock=some k\/w.heap.size<=k:=by
  have h63:n+s.size<=maxLen:=by unfold maxLen;omega
  obtain⟨v',w',h1,h2,h3,-⟩:=Lib.run_append_own_string (P:=P) (w:=w) 0 t u ty e i ht hu hi hz hsize hby v n xs hown s h63 hb (Nat.zero_le _);refine⟨v',w',h1,h2,h3,λk hk=>?_⟩;have hxl:xs.length=n:=by simpa using hown.1
  rcases hown.2 with⟨rfl,rfl⟩|⟨g,cap,cur,rfl,hbg,hg,hnc,hcm,hcs,htake⟩
  . have hx:xs=[]:=List.eq_nil_of_length_eq_zero hxl;subst hx;obtain⟨v2,w2,k1,k2,k3,-⟩:=Lib.run_append_own_string (P:=P) (w:=w) w.heap.size t u ty e i ht hu hi hz hsize hby (.slice none 0 0) 0 [] (World.ownsRow_nil _ _ _ _) s h63 hb (Nat.le_refl _);rw[h1]at k1;simp only[Result.ok.injEq]at k1;obtain⟨rfl,rfl⟩:=k1;exact .inr (k2.lt k hk).1
  . by_cases hroom:n+s.size<=cap
    . have hr:=Lib.run_append_room_string (P:=P) w t u ty e i ht hu hi hsize g n cap cur hg s hroom (by unfold maxLen at h63;omega);rw[h1]at hr;simp only[Result.ok.injEq]at hr;obtain⟨rfl,-⟩:=hr;exact .inl hk
    . have holds:∀j u,xs[j]?=some u->w.cell? ((⟨g,0,none⟩:Addr).add j)=some u:=hown.cells (g:=g) rfl;have hr:=Lib.run_append_grow_string (P:=P) w t u ty e i (.int .u8 0) ht hu hi hz ⟨g,0,none⟩ n cap xs (by rw[hsize];simpa using hxl) holds s (by omega) (by unfold maxLen at h63;omega) (by rw[hby];exact growslice_fits (by omega) (by omega));rw[h1]at hr;simp only[Result.ok.injEq]at hr;obtain⟨rfl,-⟩:=hr;simp[Value.ownBlock]at hk;exact .inr (by omega)
theorem Zc6{ops:Array Oper}{rest:List Oper}{o:Oper}{a:Act}{Q:Exit->Act->World->Prop}(hgd:o.guard=none)(sl x:Operand)(t u:TypeId) (ho:o.op=.call { callee:=.builtin .append,args:=#[sl,x],argTypes:=#[t,u] })
  (e:TypeId) (i:TypeInfo) (ht:P.underlying t=some (.slice e)) (hu:P.underlying u=some .string) (hi:P.info? e=some i) (hz:i.zero=some (.int .u8 0))
  (hsize:i.size=1) (hby:i.bytes=1) (v:Value) (n:Nat) (xs:List Value) (hs:a.eval sl=v) (hown:w.ownsRow 0 e 1 v n xs) (s:ByteArray) (hx:a.eval x=.string s) (hb:n+s.size<=140737488355328)
  (h:∀v' w',w'.ownsRow 0 e 1 v' (n+s.size) (xs++Lib.strCells s)->w.grownBy w' v.ownBlock->(∀k,v'.ownBlock=some k->v.ownBlock=some k\/w.heap.size<=k)->wpList P ops Q rest (a.put o.dst v') w') :
  wpList P ops Q (o::rest) a w:=by
 refine wpList_plain hgd λK hK=>?_;obtain⟨v',w',hr,h2,h3,h4⟩:=Zuo (P:=P) (w:=w) t u o.type e i ht hu hi hz hsize hby v n xs hown s hb;unfold Oper.wp execOp;simp only[ho,resolve,invoke,builtin,Sem.run_bind,Sem.run_pure,Result.andThen_ok,List.map_toArray,List.map_cons,List.map_nil,hs,hx,hr];exact hK _ _ (h v' w' h2 h3 h4)
end
set_option maxRecDepth 100000 in
theorem Zfa(ty b:Nat)(p v:Value)(rest:List Value)(rows:List (List Value))(s:List UInt8)(w:World)(hT:Z195 ty (rest.length+2)=true)(hty:ty≠5) (hb:w.heap[b]?=some (.cells (p::v::rest).toArray ty (0,0))) (hp:p=.pointer none\/p=.pointer (some ⟨b,0,none⟩)) (hown:owns w v 5 [.int .u8] rows) (hlen:rows.length+s.length<=140737488355328) : Calls Tryz.prog 141 #[.pointer (some ⟨b,0,none⟩),.string ⟨s.toArray⟩] w λe w'=>e=.returned (.tuple #[.int .i64 s.length,.nilIface]) /\ ∃v',w'.heap[b]?=some (.cells (.pointer (some ⟨b,0,none⟩)::v'::rest).toArray ty (0,0))/\owns w' v' 5 [.int .u8] (rows++s.map λb=>[Value.int .u8 (b.toNat:Int)]) /\ Mod (b::v.ownBlock.toList) w w'/\∀k,Z1 v' k->w.heap.size<=k\/k∈v.ownBlock.toList:=by
 obtain⟨i0,hi,hz0,hz1,hz2⟩:=Z14j;have hne:∀k,v.ownBlock=some k->k≠b:=λk hk e=>by
  subst e;rcases hown.2.2 with⟨hv,-⟩|⟨g,cap,cur,hv,-,hg,-⟩
  ·rw[hv]at hk;cases hk
  ·rw[hv]at hk;simp[Value.ownBlock]at hk;subst hk;rw[hb]at hg;simp at hg;exact hty hg.2
 have hlt:b<w.heap.size:=(Array.getElem?_eq_some_iff.1 hb).1;have hchk:Calls Tryz.prog 177 #[.pointer (some ⟨b,0,none⟩)] w λe w'=>e=.returned (.tuple #[])/\w'.heap[b]?=some (.cells (.pointer (some ⟨b,0,none⟩)::v::rest).toArray ty (0,0))/\Mod [b] w w':=by
  rcases hp with rfl|rfl
  ·refine(Z9l ty (rest.length+2) b w hT (by omega) (Z2y hb 0) (by simp[World.shape?,hb]) (Lib.frozen_of_heap hb 0)).mono ?_;rintro e w' ⟨rfl,rfl⟩;refine⟨rfl,?_,Mod.setCell _ _ _ (.inl (by simp))⟩;simp[World.setCell,Array.getElem?_modify,hb]
  ·refine(Zb1 b w (Z2y hb 0)).mono ?_;rintro e w' ⟨rfl,rfl⟩;exact⟨rfl,hb,Mod.refl _ _⟩
 have e240:∀args w,(callFunc 177 args).run Tryz.prog w=.ok (.enter 177 args) w:=enters_of Tryz.func177 (by kernel_rfl) rfl;go_enter Tryz.func141,Tryz.ntmps141
 go_wp2_with (go_at_fn 177;refine hchk.mono ?_)
 rintro e w1 ⟨rfl,hbk,hm1⟩;have hown1:owns w1 v 5 [.int .u8] rows:=owns.stable hown λk hk=>hm1.block k (hown.2.lt k hk).2 (by simpa using hne k hk);have c0:w1.cell? ⟨b,0,none⟩=some (.pointer (some ⟨b,0,none⟩)):=Z2y hbk 0;have c1:w1.cell? ⟨b,1,none⟩=some v:=Z2y hbk 1;have ho1:=hown1.2;have hfl:rows.flatten.length=rows.length:=by have:=ho1.1;simpa using this
 go_wp2_with (at_builtin;refine Zc6 rfl _ _ 158 9 rfl 5 i0 Tryz.underlying158 Tryz.underlying9 hi hz0 hz1 hz2 _ _ _ rfl ho1 ⟨s.toArray⟩ rfl ?c4 ?_)
 case c4=>simp only[ByteArray.size];simp;omega
 intro v' w2 hown' hgrow hloc;have hlt1:b<w1.heap.size:=Nat.lt_of_lt_of_le hlt hm1.size;have hb2:w2.heap[b]?=some (.cells (.pointer (some ⟨b,0,none⟩)::v::rest).toArray ty (0,0)):=by rw[hgrow.block b hlt1 (λe=>hne b e.symm rfl)];exact hbk
 have d0:w2.cell? ⟨b,0,none⟩=some (.pointer (some ⟨b,0,none⟩)):=Z2y hb2 0;have d1:w2.cell? ⟨b,1,none⟩=some v:=Z2y hb2 1;have f1:w2.frozen? ⟨b,1,none⟩=false:=Lib.frozen_of_heap hb2 1;have hnl:((rows++s.map λb=>[Value.int .u8 (b.toNat:Int)]).length)=rows.length+s.length:=by simp
 have hfl2:(rows++s.map λb=>[Value.int .u8 (b.toNat:Int)]).flatten=rows.flatten++Lib.strCells ⟨s.toArray⟩:=by rw[List.flatten_append,Zrk]
 have hsz:(⟨s.toArray⟩:ByteArray).size=s.length:=by simp[ByteArray.size]
 obtain⟨ao,n',cap,rfl⟩:∃ao n' cap,v'=.slice ao n' cap:=by
  rcases hown'.2 with⟨hv,_⟩|⟨g,cap,cur,hv,_⟩
  ·exact⟨_,_,_,hv⟩
  ·exact⟨_,_,_,hv⟩
 have hvb:∀k,(Value.slice ao n' cap).ownBlock=some k->k≠b:=λk hk e=>by
  subst e;rcases hloc k hk with h|h
  ·exact hne k h rfl
  ·omega
 go_wp2
 go_ret2
 have hs3:(w2.setCell ⟨b,1,none⟩ (.slice ao n' cap)).heap[b]?=some (.cells (.pointer (some ⟨b,0,none⟩)::.slice ao n' cap::rest).toArray ty (0,0)):=by have hlt2:b<w2.heap.size:=(Array.getElem?_eq_some_iff.1 hb2).1;have e:=(Array.getElem?_eq_some_iff.1 hb2).2;simp[World.setCell,Array.getElem?_modify,hb2]
 refine⟨rfl,.slice ao n' cap,hs3,?_,?_,?_⟩
 ·refine owns.stable (w:=w2) ⟨λr hr=>?_,?_⟩ λk hk=>(Mod.setCell (fp:=[b]) w2 ⟨b,1,none⟩ (.slice ao n' cap) (.inl (by simp))).block k (hown'.lt k hk).2 (by simpa using hvb k hk)
  ·rcases qy13.1 hr with h|h
   ·exact hown.1 r h
   ·exact Zz6 s r h
  ·rw[hnl,hfl2,<- hsz];exact hown'
 ·refine((hm1.mono (fp':=b::v.ownBlock.toList) (by simp)).trans (fp':=b::v.ownBlock.toList) (Mod.of_grown hgrow (λk hk=>.inl (by simp[hk]))) (λk hk=>.inl hk)).trans (fp':=[b]) (Mod.setCell _ _ _ (.inl (by simp))) (by simp)
 ·intro k hk;rcases hloc k hk with h|h
  ·exact .inr (by simp[h])
  ·exact .inl (Nat.le_trans hm1.size h)
set_option maxRecDepth 100000 in
theorem Z196(ty b:Nat)(p v:Value)(rest:List Value)(rows:List (List Value))(w:World) (hb:w.heap[b]?=some (.cells (p::v::rest).toArray ty (0,0))) (hown:owns w v 5 [.int .u8] rows) : Calls Tryz.prog 104 #[.pointer (some ⟨b,0,none⟩)] w λe w'=>e=.returned (.int .i64 rows.length)/\w'=w:=by
 obtain⟨ao,cap,rfl⟩:∃ao cap,v=.slice ao rows.length cap:=by
  rcases hown.2.2 with⟨hv,h0⟩|⟨g,cap,cur,hv,_⟩
  ·exact⟨none,0,by rw[hv,h0]⟩
  ·exact⟨_,_,hv⟩
 have c1:w.cell? ⟨b,1,none⟩=some (.slice ao rows.length cap):=Z2y hb 1;go_enter Tryz.func104,Tryz.ntmps104
 go_wp2
 go_ret
 exact⟨rfl,rfl⟩
theorem Zup(fp:List Nat)(w:World)(g n:Nat)(h:g∈fp):Mod fp w (w.freeze ⟨g,0,none⟩ n):=by
 unfold World.freeze;split
 ·exact Mod.refl _ _
 ·refine⟨rfl,rfl,rfl,by simp,λk hk hn=>?_⟩;have:k≠g:=λe=>hn (e▸h);simp[Array.getElem?_modify,Ne.symm this]
theorem Zz7:Tryz.prog.follows .mixedOrders=true:=by kernel_rfl
theorem Zz8(s:List UInt8):(s.map λb=>[Value.int .u8 (b.toNat:Int)]).flatten=Lib.byteCells s:=by rw[Zrk];simp[Lib.strCells,Lib.byteCells]
theorem Zjx:Tryz.prog.cellsOf 5=1:=by kernel_rfl
set_option maxRecDepth 100000 in
theorem Zuq(ty b:Nat)(p v:Value)(rest:List Value)(l:List UInt8)(w:World) (hb:w.heap[b]?=some (.cells (p::v::rest).toArray ty (0,0))) (hown0:owns w v 5 [.int .u8] (l.map λb=>[Value.int .u8 (b.toNat:Int)])) : Calls Tryz.prog 105 #[.pointer (some ⟨b,0,none⟩)] w λe w'=>e=.returned (.string ⟨l.toArray⟩)/\Mod v.ownBlock.toList w w':=by
 have hown:=hown0.2;rw[Zz8,qy3]at hown;have mixed:=Zz7;have hlt:b<w.heap.size:=(Array.getElem?_eq_some_iff.1 hb).1;have hUS:∀W q,(Builtin.unsafeString_ #[207,3] 9 #[.pointer q,.int .i64 0]).run Tryz.prog W=.ok (.string .empty) W:=λW q=>Lib.run_unsafeString_none W _ _ _ q;rcases hown.2 with⟨rfl,hl0⟩|⟨g,cap,cur,rfl,hbg,hg,hnc,hcm,hcs,htake⟩
 ·have hl:l=[]:=List.eq_nil_of_length_eq_zero hl0;subst hl;have c1:w.drew.cell? ⟨b,1,none⟩=some (.slice none 0 0):=Z2y (w:=w.drew) hb 1;have hSD:(Builtin.unsafeSliceData_ #[158] 207 #[.slice none 0 0]).run Tryz.prog w.drew=.ok (.pointer none) w.drew:=rfl;go_enter Tryz.func105,Tryz.ntmps105
  go_wp2
  go_region_o
  all_goals (go_wp2;go_ret;exact⟨rfl,Mod.drew _ w⟩)
 ·by_cases hl0:l=[]
  ·subst hl0;by_cases hc0:cap=0
   ·subst hc0;have c1:w.drew.cell? ⟨b,1,none⟩=some (.slice (some ⟨g,0,none⟩) 0 0):=Z2y (w:=w.drew) hb 1;have hSD:(Builtin.unsafeSliceData_ #[158] 207 #[.slice (some ⟨g,0,none⟩) 0 0]).run Tryz.prog w.drew=.ok (.pointer (some ⟨w.drew.heap.size,0,none⟩)) (w.drew.alloc (.view ⟨g,0,none⟩ 5)) :=
     Lib.run_unsafeSliceData_zero w.drew _ _ 5 Tryz.underlying207 ⟨g,0,none⟩ 0 (5,cur.size) (by have hg':w.drew.heap[g]?=some (.cells cur 5 (0,0)):=hg;simp[World.shape?,hg'])
    have c2:(w.drew.alloc (.view ⟨g,0,none⟩ 5)).cell? ⟨b,1,none⟩=some (.slice (some ⟨g,0,none⟩) 0 0):=by have:(w.drew.alloc (.view ⟨g,0,none⟩ 5)).heap[b]?=_:=(Lib.alloc_old w.drew _ b hlt).trans hb;exact Z2y this 1
    have c3:(w.alloc (.view ⟨g,0,none⟩ 5)).drew.cell? ⟨b,1,none⟩=some (.slice (some ⟨g,0,none⟩) 0 0):=c2;have c0:w.cell? ⟨b,1,none⟩=some (.slice (some ⟨g,0,none⟩) 0 0):=c1;go_enter Tryz.func105,Tryz.ntmps105
    go_wp2
    go_region_o
    all_goals (go_wp2;go_ret;exact⟨rfl,(Mod.drew _ w).trans (Mod.alloc _ _ _) (λk hk=>.inl hk)⟩)
   ·have c1:w.drew.cell? ⟨b,1,none⟩=some (.slice (some ⟨g,0,none⟩) 0 cap):=Z2y (w:=w.drew) hb 1;have hSD:(Builtin.unsafeSliceData_ #[158] 207 #[.slice (some ⟨g,0,none⟩) 0 cap]).run Tryz.prog w.drew=.ok (.pointer (some ⟨g,0,none⟩)) w.drew :=
     Lib.run_unsafeSliceData_row _ _ _ _ _ _ hc0
    clear hc0;go_enter Tryz.func105,Tryz.ntmps105
    go_wp2
    go_region_o
    all_goals (go_wp2;go_ret;exact⟨rfl,Mod.drew _ w⟩)
  ·have hl1:l.length≠0:=by simpa using hl0
   have c1:w.drew.cell? ⟨b,1,none⟩=some (.slice (some ⟨g,0,none⟩) l.length cap):=Z2y (w:=w.drew) hb 1;have hSD:(Builtin.unsafeSliceData_ #[158] 207 #[.slice (some ⟨g,0,none⟩) l.length cap]).run Tryz.prog w.drew=.ok (.pointer (some ⟨g,0,none⟩)) w.drew :=
    Lib.run_unsafeSliceData_row _ _ _ _ _ _ (by omega)
   have hUS':(Builtin.unsafeString_ #[207,3] 9 #[.pointer (some ⟨g,0,none⟩),.int .i64 l.length]).run Tryz.prog w.drew=.ok (.string ⟨l.toArray⟩) (w.drew.freeze ⟨g,0,none⟩ l.length):=by refine Lib.run_unsafeString_row w.drew 207 3 9 5 Tryz.underlying207 Zjx g cur.size (by have hg':w.drew.heap[g]?=some (.cells cur 5 (0,0)):=hg;simp[World.shape?,hg']) l hl0 (by simp at hcs;omega) (by unfold maxLen at hcm;omega) ?_;intro j x hx;have:=hown.cells (g:=g) rfl j (.int .u8 x.toNat) (by simp[Lib.byteCells,hx]);exact this
   go_enter Tryz.func105,Tryz.ntmps105
   go_wp2
   go_region_o
   all_goals (go_wp2;go_ret;exact⟨rfl,(Mod.drew _ w).trans (Zup _ _ g _ (by simp[Value.ownBlock])) (λk hk=>.inl hk)⟩)
end Go.Proofs.Y
namespace Go.Proofs.Y
open Go.Sx
theorem Zur:Z195 162 2=true:=by kernel_rfl
def byW(l:List UInt8):List (List Value):=l.map λb=>[Value.int .u8 (b.toNat:Int)]
theorem Z197(a b:List UInt8):byW (a++b)=byW a++byW b:=List.map_append
def okp(p:Value)(b:Nat):Prop:=p=.pointer none\/p=.pointer (some ⟨b,0,none⟩)
theorem okp.sc1{p:Value}{b:Nat}(h:okp p b):sc1 p=p:=by rcases h with rfl|rfl<;>rfl
structure wrS(w:World)(b:Nat)(p q:Value)(l:List UInt8):Prop where
 cells:w.heap[b]?=some (.cells [Sx.sc1 p,Sx.sc1 q].toArray 162 (0,0))
 ok:okp p b
 own:owns w q 5 [.int .u8] (byW l)
theorem wrS.ne{w:World}{b:Nat}{p q:Value}{l:List UInt8}(h:wrS w b p q l){k:Nat}(hk:Z1 q k):k≠b:=λe=>by
 subst e;have hk:q.ownBlock=some k:=hk;rcases h.own.2.2 with⟨hv,-⟩|⟨g,cap,cur,hv,-,hg,-⟩
 ·rw[hv]at hk;cases hk
 ·rw[hv]at hk;simp[Value.ownBlock]at hk;subst hk;have hb:=h.cells;rw[hb]at hg;simp at hg
def fpW(b:Nat)(q:Value):List Nat:=[b]++(q.ownBlock.toList++[])
def Zjy(w w':World)(b:Nat)(q:Value)(l:List UInt8):Prop :=
 ∃p' q',wrS w' b p' q' l/\Mod (fpW b q) w w'/\∀k,Z1 q' k->w.heap.size<=k\/k∈q.ownBlock.toList++[]
theorem Z198(w:World)(b:Nat)(p q:Value)(l s:List UInt8)(h:wrS w b p q l)(hl:l.length+s.length<=140737488355328) : Calls Tryz.prog 141 #[.pointer (some ⟨b,0,none⟩),.string ⟨s.toArray⟩] w λe w'=>e=.returned (.tuple #[.int .i64 s.length,.nilIface])/\Zjy w w' b q (l++s):=by have hq:sc1 q=q:=h.own.reads.sc1;have hc:=h.cells;rw[h.ok.sc1,hq]at hc;refine(Zfa 162 b p q [] _ s w Zur (by decide) hc h.ok h.own (by simp only[byW,qy3];omega)).mono ?_;rintro e w' ⟨rfl,v',c1,c2,c3,c4⟩;have hv:sc1 v'=v':=c2.reads.sc1;refine⟨rfl,.pointer (some ⟨b,0,none⟩),v',⟨by rw[hv];exact c1,.inr rfl,by rw[Z197];exact c2⟩,c3.mono λz hz=>.inl ?_,λk hk=>(c4 k hk).imp id λh=>by simpa using h⟩;simpa[fpW]using hz
theorem Z199{w:World}{b:Nat}{p q:Value}{l:List UInt8}{J:List V}{vb vq vp:Nat}{rds:List Ent}{r:X}(h:wrS w b p q l)(hb:(J.getD vb (.i 0)).toN=b)(hq:(J.getD vq (.i 0)).toV=q) (hp:(J.getD vp (.i 0)).toV=p) (hr:(r.ev J).toR=byW l) (hd:∀e∈rds,e.holds J w/\e.wr=false/\∀k,e.fp J k->k≠b/\¬Z1 q k) : Rel ⟨fpW b q,w⟩ J (.row vq 5 [.int .u8] r::.cells vb 162 [.val (.var vp),.val (.var vq)]::rds) w:=by
 refine⟨Mod.refl _ _,qy2.2 ⟨?_,qy2.2 ⟨?_,λe he=>(hd e he).1⟩⟩,qy2.2 ⟨λ_ k hk=>.inr ?_,qy2.2 ⟨λ_ k hk=>.inr ?_,λe he hw=>?_⟩⟩,List.pairwise_cons.2 ⟨?_,List.pairwise_cons.2 ⟨?_,?_⟩⟩⟩
 ·simp only[Ent.holds];rw[hq,hr];exact h.own
 ·simp only[Ent.holds,List.map_cons,List.map_nil,Sc.ev,X.ev];rw[hb,hq,hp];exact h.cells
 ·have hk:Z1 (J.getD vq (.i 0)).toV k:=hk;rw[hq]at hk;have hk:q.ownBlock=some k:=hk;simp[fpW,hk]
 ·have hk:k=(J.getD vb (.i 0)).toN:=hk;rw[hb]at hk;simp[fpW,hk]
 ·rw[(hd e he).2.1]at hw;cases hw
 ·refine qy2.2 ⟨λ_ k h1 h2=>?_,λe he _ k h1 h2=>?_⟩
  ·have h1:Z1 (J.getD vq (.i 0)).toV k:=h1;have h2:k=(J.getD vb (.i 0)).toN:=h2;rw[hq]at h1;rw[hb]at h2;exact h.ne h1 h2
  ·have h1:Z1 (J.getD vq (.i 0)).toV k:=h1;rw[hq]at h1;exact((hd e he).2.2 k h2).2 h1
 ·intro e he _ k h1 h2;have h1:k=(J.getD vb (.i 0)).toN:=h1;rw[hb]at h1;exact((hd e he).2.2 k h2).1 h1
 ·exact Z2d λe he=>(hd e he).2.1
theorem Zjz{w w':World}{b:Nat}{q:Value}{l:List UInt8}{J:List V}{hp:List Ent}(hr:Rel ⟨fpW b q,w⟩ J hp w'){p' q':Value}(h:wrS w' b p' q' l){vq ty:Nat}{ks:List Kd}{r:X}(hm:Ent.row vq ty ks r∈hp) (hq:(J.getD vq (.i 0)).toV=q'):Zjy w w' b q l:=by
 refine⟨p',q',h,hr.mod,λk hk=>?_⟩;rcases hr.own _ hm rfl k (by show Z1 (J.getD vq (.i 0)).toV k;rw[hq];exact hk)with h1|h1
 ·exact .inl h1
 ·rcases List.mem_cons.1 h1 with h2|h2
  ·exact absurd h2 (h.ne hk)
  ·exact .inr h2
theorem Zfb(w:World)(b:Nat)(p q:Value)(l t:List UInt8)(h:wrS w b p q l)(hl:l.length+t.length<=100000000000000) : Calls Tryz.prog 138 #[.pointer (some ⟨b,0,none⟩),.string ⟨t.toArray⟩] w λe w'=>e=.returned (.tuple #[])/\Zjy w w' b q (l++txtB t):=by refine Z2 (Z3 (J:=[.n b,.v p,.v q,.r (byW l),.s t]) sxE_ok Tryz.func138 Z6p rfl rfl (Z199 h rfl rfl rfl rfl (by simp)) rfl rfl ?_) rfl;simp only[QQ,Nat.reduceAdd];refine⟨[.s (txtB t)],rfl,λ_ w' _=>Zos w' t (by omega),?_⟩;simp only[QQ,Nat.reduceAdd];intro w1 hr;refine(Z198 w1 b p q l (txtB t) ⟨hr.at_ 1 rfl,h.ok,hr.at_ 0 rfl⟩ (by rw[Z24];omega)).mono ?_;rintro e w2 ⟨rfl,p1,q1,s1,m1,f1⟩;refine⟨[.i _,.v .nilIface,.a Asrt.tt,.v p1,.v q1,.r (byW _)],rfl,rfl,m1,qy2.2 ⟨s1.cells,qy5 _⟩,qy2.2 ⟨⟨by simp only[Ent.holds,QQ,Nat.reduceAdd];trivial,λz hz=>by simp only[Ent.fp,QQ,Nat.reduceAdd]at hz;exact hz.elim⟩,qy2.2 ⟨⟨s1.own,λz hz=>(f1 z hz).imp id .inr⟩,qy5 _⟩⟩,Zj5 rfl Z4,?_⟩;(try simp only[QQ,Nat.reduceAdd]);exact λw' hr=>⟨by trivial,Zjz hr ⟨hr.at_ 2 rfl,s1.ok,hr.at_ 1 rfl⟩ (qy10 _ (qy8 ..)) rfl⟩
theorem Zz9(k:Nat)(ns:List Int)(i:Nat)(h:i<ns.length):((ns.take (i+1)).map (numB k)).flatten=((ns.take i).map (numB k)).flatten++numB k (ns.getD i 0):=by rw[List.take_add_one,qy1,qy7 h];simp only[Option.toList_some,Option.getD_some,List.map_append,List.map_cons,List.map_nil,List.flatten_append,List.flatten_cons,List.flatten_nil,List.append_nil]
theorem Zmd(k:Nat)(ns:List Int):((ns.map (numB k)).flatten).length=ns.length*k:=by
 induction ns with
 | nil=>simp
 | cons n ns ih=>simp[ih,Zt,Nat.succ_mul];omega
theorem Zcr(w:World)(b:Nat)(p q:Value)(l:List UInt8)(k:Nat)(lv:Value)(ns:List Int)(h:wrS w b p q l)(hk:k<=2)(hv:Z2t w lv ns)(ha:∀k,(ns.map Zg).flatten≠[]/\Z1 lv k->k≠b/\¬Z1 q k) (hn:∀n∈ns,0<=n/\n<=65535) (hl:l.length<=10000000000000) (hl2:ns.length<=1000000000) : Calls Tryz.prog 139 #[.pointer (some ⟨b,0,none⟩),.int .i64 k,sc1 lv] w λe w'=>e=.returned (.tuple #[])/\Zjy w w' b q (l++(ns.map (numB k)).flatten):=by
  refine Z2 (Z3 (J:=[.n b,.v p,.v q,.r (byW l),.i k,.v lv,.r (ns.map Zg)]) sxE_ok Tryz.func139 Z7l rfl rfl
    (Z199 h rfl rfl rfl rfl (qy2.2 ⟨⟨hv,rfl,ha⟩,qy5 _⟩)) rfl rfl ?_) rfl
  simp only[QQ,Nat.reduceAdd];refine⟨λvs=>∃(i:Nat) (p' q':Value),vs=[.i i,.v p',.v q',.r (byW (l++((ns.take i).map (numB k)).flatten))]/\i<=ns.length/\okp p' b,λvs=>ns.length - (vs.getD 0 (.i 0)).toI.toNat,⟨0,p,q,by simp,by omega,h.ok⟩,?_⟩;rintro _ - ⟨i,p',q',rfl,hi,hp'⟩;simp only[QQ,Nat.reduceAdd,qy3,qy4,gI0];refine⟨λh1=>⟨by omega,?_⟩,λh1 w' hr=>?_⟩
  . have hni:0<=ns.getD i 0/\ns.getD i 0<=65535:=by
      rw[qy1,qy7 (by omega)];exact hn _ (List.getElem_mem _)
    refine⟨[.s (numB k (ns.getD i 0))],rfl,λ_ w' _=>Zjo w' _ k (by omega) hni.1 (by omega),?_⟩;simp only[QQ,Nat.reduceAdd];intro w1 hr;have hlen:(l++((ns.take i).map (numB k)).flatten).length<=10000000000000+1000000000*2:=by
      rw[qy11,Zmd];have h1:(ns.take i).length<=1000000000:=by simp;omega
      have:=Nat.mul_le_mul h1 hk;omega
    refine(Z198 w1 b p' q' _ (numB k (ns.getD i 0)) ⟨hr.at_ 1 rfl,hp',hr.at_ 0 rfl⟩ (by rw[Zt];omega)).mono ?_;rintro e w2 ⟨rfl,p1,q1,s1,m1,f1⟩;refine⟨[.i _,.v .nilIface,.a Asrt.tt,.v p1,.v q1,.r (byW _)],rfl,rfl,m1,qy2.2 ⟨s1.cells,qy5 _⟩,qy2.2 ⟨⟨by simp only[Ent.holds,QQ,Nat.reduceAdd];trivial,λz hz=>by simp only[Ent.fp,QQ,Nat.reduceAdd]at hz;exact hz.elim⟩,qy2.2 ⟨⟨s1.own,λz hz=>(f1 z hz).imp id .inr⟩,qy5 _⟩⟩,Zj5 rfl Z4,?_⟩;(try simp only[QQ,Nat.reduceAdd]);refine⟨by omega,by omega,⟨i+1,p1,q1,?_,by omega,s1.ok⟩,by omega⟩;rw[Zz9 k ns i (by omega),List.append_assoc];rfl
  . have:i=ns.length:=by omega
    subst this;rw[List.take_length]at hr;exact⟨by trivial,Zjz hr ⟨hr.at_ 1 rfl,hp',hr.at_ 0 rfl⟩ (qy8 ..) rfl⟩
structure ByteP(p:Pkt):Prop where
 kind:0<=p.kind/\p.kind<=15
 qos:0<=p.qos/\p.qos<=3
 id:0<=p.id/\p.id<=65535
 keep:0<=p.keep/\p.keep<=65535
 code:0<=p.code/\p.code<=65535
 asks:∀a∈p.asks,0<=a.2/\a.2<=65535
 codes:∀c∈p.codes,0<=c/\c<=65535
 small:SmallP p
 body:(Z6u p).length<268435456
theorem ByteP.ask{p:Pkt}(h:ByteP p)(i:Nat):0<=(p.asks.getD i aD).2/\(p.asks.getD i aD).2<=65535:=by
 by_cases hi:i<p.asks.length
 ·rw[qy1,qy7 hi];exact h.asks _ (List.getElem_mem hi)
 ·rw[qy1,List.getElem?_eq_none (by omega)];decide
theorem Zza{p:Pkt}(h:SmallP p):(Z7o p).length<=2000000000:=by
 have h1:=h.client;have h2:=h.topic;unfold Z7o;split
 ·simp only[qy11,Z24,Zt,List.length_cons,List.length_nil];omega
 ·split
  ·simp only[qy11,Zt];omega
  ·split
   ·rw[Z24];omega
   ·simp
def idP(p:Pkt):List UInt8:=if idB p=true then numB 2 p.id else[]
theorem Z19a(p:Pkt):(idP p).length<=2:=by unfold idP;split<;>simp[Zt]
def asB(p:Pkt)(i:Nat):List UInt8:=Z7o p++idP p++p.payload++((p.asks.take i).map (Z2s p.kind)).flatten
theorem Z19b{p:Pkt}(h:ByteP p)(i:Nat):(asB p i).length<268435456:=by
 refine Nat.lt_of_le_of_lt ?_ h.body;unfold Z6u asB idP;have:((p.asks.take i).map (Z2s p.kind)).flatten.length<=(p.asks.map (Z2s p.kind)).flatten.length:=by
  conv=>rhs;rw[<- List.take_append_drop i p.asks,List.map_append,List.flatten_append,qy11]
  omega
 simp only[qy11];omega
theorem Z14k(p:Pkt):asB p 0=Z7o p++idP p++p.payload:=by simp[asB]
theorem Zrl(p:Pkt)(i:Nat)(h:i<p.asks.length):asB p (i+1)=asB p i++Z2s p.kind (p.asks.getD i aD):=by unfold asB;rw[List.take_add_one,qy1,qy7 h];simp only[Option.toList_some,Option.getD_some,List.map_append,List.map_cons,List.map_nil,List.flatten_append,List.flatten_cons,List.flatten_nil,List.append_nil,List.append_assoc]
theorem Z19c(p:Pkt):asB p p.asks.length++(p.codes.map (numB 1)).flatten=Z6u p:=by rw[asB,List.take_length];rfl
section
variable (w:World) (b:Nat) (p:Pkt) (u v:Value)
set_option maxRecDepth 10000 in
theorem Z19d(p0 q0:Value)(hu:Z3h w u p.asks)(hv:Z2t w v p.codes)(hB:ByteP p)(hw:wrS w b p0 q0 []) (hua:∀k,(p.asks.map encA).flatten≠[]/\Z1 u k->k≠b/\¬Z1 q0 k) (hva:∀k,(p.codes.map Zg).flatten≠[]/\Z1 v k->k≠b/\¬Z1 q0 k) : Calls Tryz.prog 100 #[.pointer (some ⟨b,0,none⟩),pV p u v] w λe w'=>e=.returned (.tuple #[])/\Zjy w w' b q0 (Z6u p):=by
  refine Z2 (Z3 (J:=[.n b,.v p0,.v q0,.r (byW []),.i p.kind,.b p.dup,.b p.retain,.b p.clean,.b p.session,.i p.qos,.i p.id,.i p.keep,.i p.code,.s p.client,.s p.topic,.s p.payload,.v u,.r (p.asks.map encA),.v v,.r (p.codes.map Zg)]) (sxE_ok.joins _) Tryz.func100 Z6m rfl rfl
    (Z199 hw rfl rfl rfl rfl (qy2.2 ⟨⟨hu,rfl,hua⟩,qy2.2 ⟨⟨hv,rfl,hva⟩,qy5 _⟩⟩)) rfl rfl ?_) rfl
  have hs:=hB.small;have hcl:=hs.client;have htp:=hs.topic;have hpl:=hs.payload;have hna:=hs.asks;have hnc:=hs.codes;have hhl:=Zza hs;have hil:=Z19a p;simp only[QQ,Nat.reduceAdd];intro bc;refine⟨λvs=>∃p' q',vs=[.v p',.v q',.r (byW (Z7o p))]/\okp p' b,⟨λh1=>?_,λh1=>⟨λh2=>?_,λh2=>⟨λh3=>?_,λh3=>?_⟩⟩⟩,?_⟩
  . intro w1 hr;refine(Zfb w1 b p0 q0 [] [77,81,84,84] ⟨hr.at_ 2 rfl,hw.ok,hr.at_ 1 rfl⟩ (by decide)).mono ?_;rintro e w2 ⟨rfl,p1,q1,s1,m1,f1⟩;refine⟨[.v p1,.v q1,.r (byW _)],rfl,rfl,m1,qy2.2 ⟨s1.cells,qy5 _⟩,qy2.2 ⟨⟨s1.own,λz hz=>(f1 z hz).imp id .inr⟩,qy5 _⟩,Z4,?_⟩;(try simp only[QQ,Nat.reduceAdd]);have go:∀n:Int,n=bit p.clean 2->Z7o p=[]++txtB [77,81,84,84]++(([4,n]:List Int).map (numB 1)).flatten++(([p.keep]:List Int).map (numB 2)).flatten++txtB p.client:=λn hn=>by
      rw[Z7o,if_pos h1,hn];simp
    refine⟨λhc=>?_,λhc=>?_⟩
    . intro v1 w3 hr;have hn4:∀n∈([4,2]:List Int),0<=n/\n<=65535:=by decide
      refine(Zcr w3 b p1 q1 _ 1 v1 [4,2] ⟨hr.at_ 3 rfl,s1.ok,hr.at_ 1 rfl⟩ (by omega) (owns.reads (hr.at_ 0 rfl)) (λk hk=>⟨λe=>Zo.disj hr.sep (i:=0) (j:=3) rfl rfl (by decide) (.inl rfl) (k:=k) hk.2 e,λhb=>Zo.disj hr.sep (i:=0) (j:=1) rfl rfl (by decide) (.inl rfl) (k:=k) hk.2 hb⟩) hn4 (by decide) (by decide)).mono ?_;have o1:=s1.ok;clear s1 m1 f1;rintro e w4 ⟨rfl,p1,q1,s1,m1,f1⟩;refine⟨[.v p1,.v q1,.r (byW _)],rfl,rfl,m1,qy2.2 ⟨s1.cells,qy5 _⟩,qy2.2 ⟨⟨s1.own,λz hz=>(f1 z hz).imp id .inr⟩,qy5 _⟩,Z4,?_⟩;(try simp only[QQ,Nat.reduceAdd]);intro v2 w5 hr;refine(Zcr w5 b p1 q1 _ 2 v2 [p.keep] ⟨hr.at_ 4 rfl,s1.ok,hr.at_ 1 rfl⟩ (by omega) (owns.reads (hr.at_ 0 rfl)) (λk hk=>⟨λe=>Zo.disj hr.sep (i:=0) (j:=4) rfl rfl (by decide) (.inl rfl) (k:=k) hk.2 e,λhb=>Zo.disj hr.sep (i:=0) (j:=1) rfl rfl (by decide) (.inl rfl) (k:=k) hk.2 hb⟩) (by simpa using hB.keep) (by decide) (by simp)).mono ?_;have o2:=s1.ok;clear s1 m1 f1;rintro e w6 ⟨rfl,p1,q1,s1,m1,f1⟩;refine⟨[.v p1,.v q1,.r (byW _)],rfl,rfl,m1,qy2.2 ⟨s1.cells,qy5 _⟩,qy2.2 ⟨⟨s1.own,λz hz=>(f1 z hz).imp id .inr⟩,qy5 _⟩,Z4,?_⟩;(try simp only[QQ,Nat.reduceAdd]);intro w7 hr;refine(Zfb w7 b p1 q1 _ p.client ⟨hr.at_ 4 rfl,s1.ok,hr.at_ 0 rfl⟩ (by simp only[qy11,Z24,List.map_cons,List.map_nil,List.flatten_cons,List.flatten_nil,Zt,List.length_nil,List.length_cons];omega)).mono ?_;clear s1 m1 f1;rintro e w8 ⟨rfl,p1,q1,s1,m1,f1⟩;refine⟨[.v p1,.v q1,.r (byW _)],rfl,rfl,m1,qy2.2 ⟨s1.cells,qy5 _⟩,qy2.2 ⟨⟨s1.own,λz hz=>(f1 z hz).imp id .inr⟩,qy5 _⟩,Z4,?_⟩;(try simp only[QQ,Nat.reduceAdd]);exact⟨p1,q1,by rw[go 2 (by simp[bit,hc])];rfl,s1.ok⟩
    . intro v1 w3 hr;have hn4:∀n∈([4,0]:List Int),0<=n/\n<=65535:=by decide
      refine(Zcr w3 b p1 q1 _ 1 v1 [4,0] ⟨hr.at_ 3 rfl,s1.ok,hr.at_ 1 rfl⟩ (by omega) (owns.reads (hr.at_ 0 rfl)) (λk hk=>⟨λe=>Zo.disj hr.sep (i:=0) (j:=3) rfl rfl (by decide) (.inl rfl) (k:=k) hk.2 e,λhb=>Zo.disj hr.sep (i:=0) (j:=1) rfl rfl (by decide) (.inl rfl) (k:=k) hk.2 hb⟩) hn4 (by decide) (by decide)).mono ?_;clear s1 m1 f1;rintro e w4 ⟨rfl,p1,q1,s1,m1,f1⟩;refine⟨[.v p1,.v q1,.r (byW _)],rfl,rfl,m1,qy2.2 ⟨s1.cells,qy5 _⟩,qy2.2 ⟨⟨s1.own,λz hz=>(f1 z hz).imp id .inr⟩,qy5 _⟩,Z4,?_⟩;(try simp only[QQ,Nat.reduceAdd]);intro v2 w5 hr;refine(Zcr w5 b p1 q1 _ 2 v2 [p.keep] ⟨hr.at_ 4 rfl,s1.ok,hr.at_ 1 rfl⟩ (by omega) (owns.reads (hr.at_ 0 rfl)) (λk hk=>⟨λe=>Zo.disj hr.sep (i:=0) (j:=4) rfl rfl (by decide) (.inl rfl) (k:=k) hk.2 e,λhb=>Zo.disj hr.sep (i:=0) (j:=1) rfl rfl (by decide) (.inl rfl) (k:=k) hk.2 hb⟩) (by simpa using hB.keep) (by decide) (by simp)).mono ?_;clear s1 m1 f1;rintro e w6 ⟨rfl,p1,q1,s1,m1,f1⟩;refine⟨[.v p1,.v q1,.r (byW _)],rfl,rfl,m1,qy2.2 ⟨s1.cells,qy5 _⟩,qy2.2 ⟨⟨s1.own,λz hz=>(f1 z hz).imp id .inr⟩,qy5 _⟩,Z4,?_⟩;(try simp only[QQ,Nat.reduceAdd]);intro w7 hr;refine(Zfb w7 b p1 q1 _ p.client ⟨hr.at_ 4 rfl,s1.ok,hr.at_ 0 rfl⟩ (by simp only[qy11,Z24,List.map_cons,List.map_nil,List.flatten_cons,List.flatten_nil,Zt,List.length_nil,List.length_cons];omega)).mono ?_;clear s1 m1 f1;rintro e w8 ⟨rfl,p1,q1,s1,m1,f1⟩;refine⟨[.v p1,.v q1,.r (byW _)],rfl,rfl,m1,qy2.2 ⟨s1.cells,qy5 _⟩,qy2.2 ⟨⟨s1.own,λz hz=>(f1 z hz).imp id .inr⟩,qy5 _⟩,Z4,?_⟩;(try simp only[QQ,Nat.reduceAdd]);exact⟨p1,q1,by rw[go 0 (by simp[bit,hc])];rfl,s1.ok⟩
  . have go:∀n:Int,n=bit p.session 1->Z7o p=[]++(([n,p.code]:List Int).map (numB 1)).flatten:=λn hn=>by
      rw[Z7o,if_neg h1,if_pos h2,hn];simp
    have one:∀n:Int,n=bit p.session 1->(0<=n/\n<=65535)->∀(v1:Value) (w3:World),Z2t w3 v1 [n,p.code]->wrS w3 b p0 q0 []->(∀k,(([n,p.code]:List Int).map Zg).flatten≠[]/\Z1 v1 k->k≠b/\¬Z1 q0 k) ->
        Calls Tryz.prog 139 #[.pointer (some ⟨b,0,none⟩),.int .i64 1,sc1 v1] w3 λe w'=>e=.returned (.tuple #[])/\Zjy w3 w' b q0 (Z7o p):=λn hn h0 v1 w3 hv1 hw3 ha=>by
      have h9:=hB.code;rw[go n hn];exact Zcr w3 b p0 q0 _ 1 v1 [n,p.code] hw3 (by omega) hv1 ha (by simp;omega) (by decide) (by simp)
    have c1:p.session=true->(1:Int)=bit p.session 1:=λh=>by simp[bit,h]
    have c0:¬p.session=true->(0:Int)=bit p.session 1:=λh=>by simp[bit,h]
    refine⟨⟨λhc=>?_,λhc=>?_⟩,⟨λhc=>?_,λhc=>?_⟩⟩;all_goals
      intro v1 w3 hr;first
      | refine(one 1 (c1 hc) (by decide) v1 w3 (owns.reads (hr.at_ 0 rfl)) ⟨hr.at_ 3 rfl,hw.ok,hr.at_ 2 rfl⟩ (λk hk=>⟨λe=>Zo.disj hr.sep (i:=0) (j:=3) rfl rfl (by decide) (.inl rfl) (k:=k) hk.2 e,λhb=>Zo.disj hr.sep (i:=0) (j:=2) rfl rfl (by decide) (.inl rfl) (k:=k) hk.2 hb⟩)).mono ?_
      | refine(one 0 (c0 hc) (by decide) v1 w3 (owns.reads (hr.at_ 0 rfl)) ⟨hr.at_ 3 rfl,hw.ok,hr.at_ 2 rfl⟩ (λk hk=>⟨λe=>Zo.disj hr.sep (i:=0) (j:=3) rfl rfl (by decide) (.inl rfl) (k:=k) hk.2 e,λhb=>Zo.disj hr.sep (i:=0) (j:=2) rfl rfl (by decide) (.inl rfl) (k:=k) hk.2 hb⟩)).mono ?_
      rintro e w4 ⟨rfl,p1,q1,s1,m1,f1⟩;refine⟨[.v p1,.v q1,.r (byW _)],rfl,rfl,m1,qy2.2 ⟨s1.cells,qy5 _⟩,qy2.2 ⟨⟨s1.own,λz hz=>(f1 z hz).imp id .inr⟩,qy5 _⟩,Z4,?_⟩;(try simp only[QQ,Nat.reduceAdd]);exact⟨p1,q1,rfl,s1.ok⟩
  . intro w1 hr;refine(Zfb w1 b p0 q0 [] p.topic ⟨hr.at_ 2 rfl,hw.ok,hr.at_ 1 rfl⟩ (by simp only[List.length_nil];omega)).mono ?_;rintro e w2 ⟨rfl,p1,q1,s1,m1,f1⟩;refine⟨[.v p1,.v q1,.r (byW _)],rfl,rfl,m1,qy2.2 ⟨s1.cells,qy5 _⟩,qy2.2 ⟨⟨s1.own,λz hz=>(f1 z hz).imp id .inr⟩,qy5 _⟩,Z4,?_⟩;(try simp only[QQ,Nat.reduceAdd]);exact⟨p1,q1,by rw[Z7o,if_neg h1,if_neg h2,if_pos h3],s1.ok⟩
  . exact⟨p0,q0,by rw[Z7o,if_neg h1,if_neg h2,if_neg h3],hw.ok⟩
  rintro _ - ⟨p1,q1,rfl,o1⟩;simp only[QQ,Nat.reduceAdd];refine⟨[.b (idB p)],rfl,λ_ w' hr=>Z13z w' p u v (hr.at_ 3 rfl) (hr.at_ 4 rfl),?_⟩;simp only[QQ,Nat.reduceAdd];refine⟨λvs=>∃p' q',vs=[.v p',.v q',.r (byW (Z7o p++idP p))]/\okp p' b,⟨λh1=>?_,λh1=>?_⟩,?_⟩
  . intro v1 w3 hr;refine(Zcr w3 b p1 q1 _ 2 v1 [p.id] ⟨hr.at_ 3 rfl,o1,hr.at_ 2 rfl⟩ (by omega) (owns.reads (hr.at_ 0 rfl)) (λk hk=>⟨λe=>Zo.disj hr.sep (i:=0) (j:=3) rfl rfl (by decide) (.inl rfl) (k:=k) hk.2 e,λhb=>Zo.disj hr.sep (i:=0) (j:=2) rfl rfl (by decide) (.inl rfl) (k:=k) hk.2 hb⟩) (by simpa using hB.id) (by omega) (by simp)).mono ?_;rintro e w4 ⟨rfl,p1,q1,s1,m1,f1⟩;refine⟨[.v p1,.v q1,.r (byW _)],rfl,rfl,m1,qy2.2 ⟨s1.cells,qy5 _⟩,qy2.2 ⟨⟨s1.own,λz hz=>(f1 z hz).imp id .inr⟩,qy5 _⟩,Z4,?_⟩;(try simp only[QQ,Nat.reduceAdd]);exact⟨p1,q1,by rw[idP,if_pos h1];simp,s1.ok⟩
  . exact⟨p1,q1,by rw[idP,if_neg h1,List.append_nil],o1⟩
  rintro _ - ⟨p2,q2,rfl,o2⟩;simp only[QQ,Nat.reduceAdd];intro w1 hr;refine(Z198 w1 b p2 q2 _ p.payload ⟨hr.at_ 2 rfl,o2,hr.at_ 1 rfl⟩ (by simp only[qy11];omega)).mono ?_;rintro e w2 ⟨rfl,p1,q1,s1,m1,f1⟩;refine⟨[.i _,.v .nilIface,.a Asrt.tt,.v p1,.v q1,.r (byW _)],rfl,rfl,m1,qy2.2 ⟨s1.cells,qy5 _⟩,qy2.2 ⟨⟨by simp only[Ent.holds,QQ,Nat.reduceAdd];trivial,λz hz=>by simp only[Ent.fp,QQ,Nat.reduceAdd]at hz;exact hz.elim⟩,qy2.2 ⟨⟨s1.own,λz hz=>(f1 z hz).imp id .inr⟩,qy5 _⟩⟩,Zj5 rfl Z4,?_⟩;(try simp only[QQ,Nat.reduceAdd]);refine⟨λvs=>∃(i:Nat) (p' q':Value),vs=[.i i,.v p',.v q',.r (byW (asB p i))]/\i<=p.asks.length/\okp p' b,λvs=>p.asks.length - (vs.getD 0 (.i 0)).toI.toNat,⟨0,p1,q1,by rw[Z14k];rfl,by omega,s1.ok⟩,?_⟩;clear s1 m1 f1 hr;rintro _ - ⟨i,p3,q3,rfl,hi,o3⟩;simp only[QQ,Nat.reduceAdd,qy3,qy4,gA0,gA1];have hal:=Z19b hB i;refine⟨λh1=>⟨by omega,λbx w3 hr=>?_⟩,λh1 w3 hr=>?_⟩
  . have hf:=hs.at_ i;have hq:=hB.ask i;refine(Zfb w3 b p3 q3 _ (p.asks.getD i aD).1 ⟨hr.at_ 4 rfl,o3,hr.at_ 2 rfl⟩ (by omega)).mono ?_;rintro e w4 ⟨rfl,p1,q1,s1,m1,f1⟩;refine⟨[.v p1,.v q1,.r (byW _)],rfl,rfl,m1,qy2.2 ⟨s1.cells,qy5 _⟩,qy2.2 ⟨⟨s1.own,λz hz=>(f1 z hz).imp id .inr⟩,qy5 _⟩,Z4,?_⟩;(try simp only[QQ,Nat.reduceAdd]);refine⟨λhk=>?_,λhk=>?_⟩
    . intro v1 w5 hr;have e0:=hr.at_ 0 rfl;simp only[Ent.holds,QQ,Nat.reduceAdd,qy4,gA1]at e0;refine(Zcr w5 b p1 q1 _ 1 v1 [(p.asks.getD i aD).2] ⟨hr.at_ 5 rfl,s1.ok,hr.at_ 1 rfl⟩ (by omega) (owns.reads e0) (λk hk=>⟨λe=>Zo.disj hr.sep (i:=0) (j:=5) rfl rfl (by decide) (.inl rfl) (k:=k) hk.2 e,λhb=>Zo.disj hr.sep (i:=0) (j:=1) rfl rfl (by decide) (.inl rfl) (k:=k) hk.2 hb⟩) (by simpa using hq) (by simp only[qy11,Z24];omega) (by simp)).mono ?_;clear s1 m1 f1;rintro e w6 ⟨rfl,p1,q1,s1,m1,f1⟩;refine⟨[.v p1,.v q1,.r (byW _)],rfl,rfl,m1,qy2.2 ⟨s1.cells,qy5 _⟩,qy2.2 ⟨⟨s1.own,λz hz=>(f1 z hz).imp id .inr⟩,qy5 _⟩,Z4,?_⟩;(try simp only[QQ,Nat.reduceAdd]);refine⟨by omega,by omega,⟨i+1,p1,q1,?_,by omega,s1.ok⟩,by omega⟩;rw[Zrl p i (by omega),Z2s,if_pos hk];simp
    . refine⟨by omega,by omega,⟨i+1,p1,q1,?_,by omega,s1.ok⟩,by omega⟩;rw[Zrl p i (by omega),Z2s,if_neg hk,List.append_nil];rfl
  . have:i=p.asks.length:=by omega
    subst this;refine(Zcr w3 b p3 q3 _ 1 v p.codes ⟨hr.at_ 3 rfl,o3,hr.at_ 1 rfl⟩ (by omega) (hr.at_ 5 rfl) (λk hk=>⟨λe=>Zo.disj hr.sep (i:=5) (j:=3) rfl rfl (by decide) (.inr rfl) (k:=k) hk e,λhb=>Zo.disj hr.sep (i:=5) (j:=1) rfl rfl (by decide) (.inr rfl) (k:=k) hk hb⟩) hB.codes (by omega) (by omega)).mono ?_;rintro e w4 ⟨rfl,p1,q1,s1,m1,f1⟩;refine⟨[.v p1,.v q1,.r (byW _)],rfl,rfl,m1,qy2.2 ⟨s1.cells,qy5 _⟩,qy2.2 ⟨⟨s1.own,λz hz=>(f1 z hz).imp id .inr⟩,qy5 _⟩,Z4,?_⟩;(try simp only[QQ,Nat.reduceAdd]);intro w' hr;rw[Z19c]at hr;exact⟨by trivial,Zjz hr ⟨hr.at_ 3 rfl,s1.ok,hr.at_ 0 rfl⟩ (qy8 ..) rfl⟩
end
end Go.Proofs.Y
namespace Go.Proofs.Y
open Go.Sx
def pkOf(p:Pk):Pkt:={ pD_Q 3 with dup:=p.1,qos:=p.2.1,id:=p.2.2.1,topic:=p.2.2.2.1,payload:=p.2.2.2.2 }
structure Snt where
 client:List UInt8
 pk:Pkt
 peer:Int
 msg:Msg
abbrev toC(c:List UInt8)(p:Pkt):Snt:=⟨c,p,0,mNil⟩
abbrev toP(n:Int)(m:Msg):Snt:=⟨[],pD_Q 0,n,m⟩
structure Tel where
 kept:List Kp
 wants:List Wt
 sess:List Ses
 wat:List Wat
 next:Int
 out:List Snt
def idxS(l:List Ses)(c:List UInt8):Nat:=(l.filter λs=>Zc s.cl c).length
def hasS(l:List Ses)(c:List UInt8):Bool:=decide (idxS l c<l.length/\(l.getD (idxS l c) s0).cl=c)
def Z5m(l:List Ses):Prop:=l.Pairwise λa b=>Zc a.cl b.cl=true
def nx_Z(n:Int):Int:=(n+1) % 65536
def Z1r(n p:List UInt8)(q:Int)(t:Tel)(r:Rd):Tel :=
 { t with sess:=t.sess.set (idxS t.sess r.1) (Z2r (t.sess.getD (idxS t.sess r.1) s0) n p (min q r.2)).1,out:=t.out++(Z2r (t.sess.getD (idxS t.sess r.1) s0) n p (min q r.2)).2.map λk=>toC r.1 (pkOf k) }
def putM(m:Msg)(n:Int):Msg:={ m with opts:=Z149 m.opts 6 [Z2i n] }
def Z5n(p:List UInt8)(t:Tel)(w:Wat):Tel:={ t with next:=nx_Z t.next,out:=t.out++[toP w.1 (putM ⟨1,69,t.next,w.2.1,[],p⟩ w.2.2.2)] }
def Z67(n p:List UInt8)(q:Int)(t:Tel):Tel:=(rdOf n t.wants).foldl (Z1r n p q) t
def Z6w(n p:List UInt8)(q:Int)(t:Tel):Tel:=(Z3s n (Z67 n p q t).wat).foldl (Z5n p) { Z67 n p q t with wat:=Z3b n (Z67 n p q t).wat }
def Z7p(t:Tel)(w:Wat):Tel:={ t with next:=nx_Z t.next,out:=t.out++[toP w.1 ⟨1,132,t.next,w.2.1,[],[]⟩] }
def ofT(n:List UInt8)(w:Wat):Bool:=decide (w.2.2.1=n)
def Z1e(n p:List UInt8)(t:Tel):Tel×Bool :=
 if ¬(rawK t.kept n p).2=0 then(t,false)
 else if ¬p=[]then({ t with kept:=(rawK t.kept n p).1 },true)
 else({ (t.wat.filter (ofT n)).foldl Z7p { t with kept:=(rawK t.kept n p).1 }with wat:=t.wat.filter λw=>!ofT n w },true)
def Zrm(c:List UInt8)(t:Tel):Tel:={ t with wants:=t.wants.filter λw=>decide (¬w.1=c) }
def Z54(c:List UInt8)(t:Tel):Tel :=
 if hasS t.sess c=true then
  if(goR (t.sess.getD (idxS t.sess c) s0)).clean=true then Zrm c { t with sess:=t.sess.take (idxS t.sess c)++t.sess.drop (idxS t.sess c+1) }
  else { t with sess:=t.sess.set (idxS t.sess c) (goR (t.sess.getD (idxS t.sess c) s0)) }
 else t
def insS(l:List Ses)(c:List UInt8):List Ses:=if hasS l c=true then l else l.take (idxS l c)++[⟨[],false,true,[],[],0⟩]++l.drop (idxS l c)
def Zb2(l:List Ses)(c:List UInt8)(clean:Bool):Bool:=!((insS l c).getD (idxS l c) s0).clean && !clean
def Zcs(l:List Ses)(c:List UInt8)(clean:Bool):Ses:={ (if Zb2 l c clean=true then(insS l c).getD (idxS l c) s0 else⟨c,false,false,[],[],1⟩)with clean:=clean }
def Z1l(c:List UInt8)(p:Pkt)(t:Tel):Tel :=
 if ¬p.client=c then t
 else if ¬hasS t.sess c=true/\t.sess.length=6 then { t with out:=t.out++[toC c { pD_Q 2 with code:=3 }] }
 else { t with
  wants:=if Zb2 t.sess c p.clean=true then t.wants else t.wants.filter λw=>decide (¬w.1=c)
  sess:=(insS t.sess c).set (idxS t.sess c) (Zet (Zcs t.sess c p.clean)).1
  out:=t.out++[toC c { pD_Q 2 with session:=Zb2 t.sess c p.clean }]++(Zet (Zcs t.sess c p.clean)).2.map λk=>toC c (pkOf k) }
def Z2z(c:List UInt8)(p:Pkt)(t:Tel):Tel :=
 let t1:Tel:=if p.qos=1 then { t with out:=t.out++[toC c { pD_Q 4 with id:=p.id }] }else t
 Z6w p.topic p.payload p.qos (if p.retain=true then(Z1e p.topic p.payload t1).1 else t1)
def Z3e(c:List UInt8)(x:List Wt×List Int)(a:Ak):List Wt×List Int:=if(rawW x.1 (c,a.1,a.2)).2=0 then((rawW x.1 (c,a.1,a.2)).1,x.2++[a.2])else(x.1,x.2++[128])
def Zgy(c:List UInt8)(ws:List Wt)(l:List Ak):List Wt×List Int:=l.foldl (Z3e c) (ws,[])
def Zp1(c:List UInt8)(kept:List Kp)(a:Ak)(q:Int):List Snt:=if q=128 then[]else(kept.filter (forF a.1)).map λk=>toC c { pD_Q 3 with retain:=true,topic:=k.1,payload:=k.2.1 }
def Z3j(c:List UInt8)(kept:List Kp):List Ak->List Int->List Snt
 | a::l,q::m=>Zp1 c kept a q++Z3j c kept l m
 | _,_=>[]
def Z2g(c:List UInt8)(p:Pkt)(t:Tel):Tel :=
 { t with wants:=(Zgy c t.wants p.asks).1,out:=t.out++[toC c { pD_Q 9 with id:=p.id,codes:=(Zgy c t.wants p.asks).2 }]++Z3j c t.kept p.asks (Zgy c t.wants p.asks).2 }
def Z1m(c:List UInt8)(p:Pkt)(t:Tel):Tel :=
 { t with wants:=t.wants.filter λw=>!(decide (w.1=c) && p.asks.any λa=>decide (a.1=w.2.1)),out:=t.out++[toC c { pD_Q 11 with id:=p.id }] }
def Zme(c:List UInt8)(p:Pkt)(t:Tel):Tel :=
 { t with sess:=t.sess.set (idxS t.sess c) (Z4r (t.sess.getD (idxS t.sess c) s0) p.id).1,out:=t.out++(Z4r (t.sess.getD (idxS t.sess c) s0) p.id).2.map λk=>toC c (pkOf k) }
def Zs(c:List UInt8)(p:Pkt)(t:Tel):Tel :=
 if ¬p.kind=1/\(¬hasS t.sess c=true\/¬(t.sess.getD (idxS t.sess c) s0).on=true)then t
 else if p.kind=1 then Z1l c p t
 else if p.kind=3 then Z2z c p t
 else if p.kind=4 then Zme c p t
 else if p.kind=8 then Z2g c p t
 else if p.kind=10 then Z1m c p t
 else if p.kind=12 then { t with out:=t.out++[toC c (pD_Q 13)] }
 else if p.kind=14 then Z54 c t
 else t
def getB(n:Int)(m a:Msg)(name:List UInt8)(t:Tel):Tel×Msg :=
 if ¬hasK t.kept name=true then(t,{ a with code:=132 })
 else
  let a1:Msg:={ a with code:=69,pay:=(t.kept.getD (idx t.kept name) kD).2.1 }
  if(Z6v 6 m.opts).2=0/\(Z6v 6 m.opts).1=0 then
   if(Z4q t.wat (n,m.tok,name,1)).2=0 then({ t with wat:=(Z4q t.wat (n,m.tok,name,1)).1 },putM a1 1)else(t,a1)
  else if(Z6v 6 m.opts).2=0/\(Z6v 6 m.opts).1=1 then({ t with wat:=filt n m.tok t.wat },a1)
  else(t,a1)
def Z3n(m:Msg)(next:Int):Msg:=if m.kind=1 then⟨1,133,next,m.tok,[],[]⟩else⟨2,133,m.id,m.tok,[],[]⟩
def doB(n:Int)(m a:Msg)(t:Tel):Tel×Msg :=
 if ¬(Z1d m.opts).2=0 then(t,{ a with code:=128 })
 else if m.code=1 then getB n m a (Z1d m.opts).1 t
 else if m.code=3 then
  if ¬m.pay=[]/\(Z1e (Z1d m.opts).1 m.pay t).2=true then(Z6w (Z1d m.opts).1 m.pay 1 (Z1e (Z1d m.opts).1 m.pay t).1,{ a with code:=68 })else(t,{ a with code:=128 })
 else if m.code=4 then((Z1e (Z1d m.opts).1 [] t).1,{ a with code:=66 })
 else(t,a)
def Z3r(n:Int)(m:Msg)(t:Tel):Tel :=
 let a:=Z3n m t.next
 let x:=doB n m a { t with next:=if m.kind=1 then nx_Z t.next else t.next,out:=t.out++[toP n a] }
 { x.1 with out:=x.1.out.set t.out.length (toP n x.2) }
def Z1b(n:Int)(m:Msg)(t:Tel):Tel :=
 if m.code=0/\m.kind=0 then { t with out:=t.out++[toP n ⟨3,0,m.id,[],[],[]⟩] }
 else if ¬m.code=0/\m.kind<=1 then Z3r n m t
 else t
def Zgz:Option (List UInt8)->List Ses->Int
 | _,[]=>0
 | u,s::l=>if ¬chkS s=0 then chkS s else if(match u with|none=>true|some c=>Zc c s.cl)=true then Zgz (some s.cl) l else 4
def Zc7(l:List Ses):Int:=if 6<(l.length:Int)then 2 else Zgz none l
def Z5f(t:Tel):Bool:=t.wants.any (λw=>!hasS t.sess w.1) || t.wat.any (λw=>!hasK t.kept w.2.2.1)
def chkB(t:Tel):Int :=
 if ¬chkK t.kept=0 then chkK t.kept
 else if ¬Z19 t.wants=0 then Z19 t.wants
 else if ¬Zc7 t.sess=0 then Zc7 t.sess
 else if ¬Z1q t.wat=0 then Z1q t.wat
 else if Z5f t=true then 4
 else if t.next<0\/65535<t.next then 3 else 0
open Go
def rdsZ(l:List (Value×List Kd×List (List Value))):Asrt where
 holds w:=∀t∈l,reads w t.1 t.2.1 t.2.2
 fp k:=∃t∈l,t.2.2.flatten≠[]/\Z1 t.1 k
 stable:=λw w' h hh t ht=>(hh t ht).stable λk hk=>h k ⟨t,ht,hk⟩
 bound:=λw hh k ⟨t,ht,hk⟩=>Ent.bound (J:=[.v t.1,.r t.2.2]) (e:=.rd 0 t.2.1 (.var 1)) (hh t ht) hk
abbrev SesX:=Ses×Value×Value
abbrev sxD:SesX:=(s0,.slice none 0 0,.slice none 0 0)
def Zh(t:SesX):List Value:=[.string ⟨t.1.cl.toArray⟩,.bool t.1.on,.bool t.1.clean,sc1 t.2.1,sc1 t.2.2,.int .i64 t.1.next]
abbrev kSx:List Kd:=[.str,.bool,.bool,.oth,.oth,.int .i64]
def sesT(t:SesX):List (Value×List Kd×List (List Value)):=[(t.2.1,kF,t.1.fl.map encF),(t.2.2,kF,t.1.qu.map encF)]
abbrev SntX:=Snt×Value×Value×Value
def Z1f(t:SntX):List Value:=[.string ⟨t.1.client.toArray⟩,
 .int .i64 t.1.pk.kind,.bool t.1.pk.dup,.bool t.1.pk.retain,.bool t.1.pk.clean,.bool t.1.pk.session,.int .i64 t.1.pk.qos,.int .i64 t.1.pk.id,.int .i64 t.1.pk.keep,.int .i64 t.1.pk.code,.string ⟨t.1.pk.client.toArray⟩,.string ⟨t.1.pk.topic.toArray⟩,.string ⟨t.1.pk.payload.toArray⟩,sc1 t.2.1,sc1 t.2.2.1,
 .int .i64 t.1.peer,.int .i64 t.1.msg.kind,.int .i64 t.1.msg.code,.int .i64 t.1.msg.id,.string ⟨t.1.msg.tok.toArray⟩,sc1 t.2.2.2,.string ⟨t.1.msg.pay.toArray⟩]
abbrev kSn:List Kd:=[.str,.int .i64,.bool,.bool,.bool,.bool,.int .i64,.int .i64,.int .i64,.int .i64,.str,.str,.str,.oth,.oth,.int .i64,.int .i64,.int .i64,.int .i64,.str,.oth,.str]
def sntT(t:SntX):List (Value×List Kd×List (List Value)):=[(t.2.1,[.str,.int .i64],t.1.pk.asks.map encA),(t.2.2.1,[.int .i64],t.1.pk.codes.map Zg),(t.2.2.2,[.int .i64,.str],t.1.msg.opts.map encO)]
def nest(l:List SesX)(o:List SntX):List (Value×List Kd×List (List Value)):=l.flatMap sesT++o.flatMap sntT
def Z6(l:List SesX)(o:List SntX):Asrt:=rdsZ (nest l o)
theorem Z1c{l:List SesX}{o:List SntX}{w:World}(h:(Z6 l o).holds w){t:SesX}(ht:t∈l):Zx w t.2.1 t.1.fl/\Zx w t.2.2 t.1.qu :=
 ⟨h (t.2.1,kF,t.1.fl.map encF) (List.mem_append_left _ (List.mem_flatMap.2 ⟨t,ht,by simp[sesT]⟩)),h (t.2.2,kF,t.1.qu.map encF) (List.mem_append_left _ (List.mem_flatMap.2 ⟨t,ht,by simp[sesT]⟩))⟩
theorem Z5g{l:List SesX}{o:List SntX}{w:World}(h:(Z6 l o).holds w){t:SntX}(ht:t∈o):Z3h w t.2.1 t.1.pk.asks/\Z2t w t.2.2.1 t.1.pk.codes/\Z3i w t.2.2.2 t.1.msg.opts :=
 ⟨h (t.2.1,[.str,.int .i64],t.1.pk.asks.map encA) (List.mem_append_right _ (List.mem_flatMap.2 ⟨t,ht,by simp[sntT]⟩)),h (t.2.2.1,[.int .i64],t.1.pk.codes.map Zg) (List.mem_append_right _ (List.mem_flatMap.2 ⟨t,ht,by simp[sntT]⟩)),h (t.2.2.2,[.int .i64,.str],t.1.msg.opts.map encO) (List.mem_append_right _ (List.mem_flatMap.2 ⟨t,ht,by simp[sntT]⟩))⟩
theorem Zz{l l':List SesX}{o o':List SntX}{w:World}(h1:∀t∈l',t∈l\/(Zx w t.2.1 t.1.fl/\Zx w t.2.2 t.1.qu))(h2:∀t∈o',t∈o\/(Z3h w t.2.1 t.1.pk.asks/\Z2t w t.2.2.1 t.1.pk.codes/\Z3i w t.2.2.2 t.1.msg.opts))(h:(Z6 l o).holds w):(Z6 l' o').holds w:=by
 intro x hx;rcases qy13.1 hx with hx|hx
 ·obtain⟨t,ht,hx⟩:=List.mem_flatMap.1 hx;have hr:Zx w t.2.1 t.1.fl/\Zx w t.2.2 t.1.qu:=by
   rcases h1 t ht with h3|h3
   ·exact Z1c h h3
   ·exact h3
  simp only[sesT,List.mem_cons,List.not_mem_nil,or_false]at hx;rcases hx with rfl|rfl
  ·exact hr.1
  ·exact hr.2
 ·obtain⟨t,ht,hx⟩:=List.mem_flatMap.1 hx;have hr:Z3h w t.2.1 t.1.pk.asks/\Z2t w t.2.2.1 t.1.pk.codes/\Z3i w t.2.2.2 t.1.msg.opts:=by
   rcases h2 t ht with h3|h3
   ·exact Z5g h h3
   ·exact h3
  simp only[sntT,List.mem_cons,List.not_mem_nil,or_false]at hx;rcases hx with rfl|rfl|rfl
  ·exact hr.1
  ·exact hr.2.1
  ·exact hr.2.2
def sesF(t:SesX)(k:Nat):Prop:=((t.1.fl.map encF).flatten≠[]/\Z1 t.2.1 k)\/((t.1.qu.map encF).flatten≠[]/\Z1 t.2.2 k)
def sntF(t:SntX)(k:Nat):Prop:=((t.1.pk.asks.map encA).flatten≠[]/\Z1 t.2.1 k)\/((t.1.pk.codes.map Zg).flatten≠[]/\Z1 t.2.2.1 k)\/((t.1.msg.opts.map encO).flatten≠[]/\Z1 t.2.2.2 k)
theorem Zb{l:List SesX}{o:List SntX}{k:Nat}:(Z6 l o).fp k↔(∃t∈l,sesF t k)\/(∃t∈o,sntF t k):=by
 constructor
 ·rintro⟨x,hx,hk⟩;rcases qy13.1 hx with hx|hx
  ·obtain⟨t,ht,hx⟩:=List.mem_flatMap.1 hx;simp only[sesT,List.mem_cons,List.not_mem_nil,or_false]at hx;rcases hx with rfl|rfl
   ·exact .inl ⟨t,ht,.inl hk⟩
   ·exact .inl ⟨t,ht,.inr hk⟩
  ·obtain⟨t,ht,hx⟩:=List.mem_flatMap.1 hx;simp only[sntT,List.mem_cons,List.not_mem_nil,or_false]at hx;rcases hx with rfl|rfl|rfl
   ·exact .inr ⟨t,ht,.inl hk⟩
   ·exact .inr ⟨t,ht,.inr (.inl hk)⟩
   ·exact .inr ⟨t,ht,.inr (.inr hk)⟩
 ·rintro(⟨t,ht,h|h⟩|⟨t,ht,h|h|h⟩)
  ·exact⟨_,List.mem_append_left _ (List.mem_flatMap.2 ⟨t,ht,qy8 ..⟩),h⟩
  ·exact⟨_,List.mem_append_left _ (List.mem_flatMap.2 ⟨t,ht,qy10 _ (qy8 ..)⟩),h⟩
  ·exact⟨_,List.mem_append_right _ (List.mem_flatMap.2 ⟨t,ht,qy8 ..⟩),h⟩
  ·exact⟨_,List.mem_append_right _ (List.mem_flatMap.2 ⟨t,ht,qy10 _ (qy8 ..)⟩),h⟩
  ·exact⟨_,List.mem_append_right _ (List.mem_flatMap.2 ⟨t,ht,qy10 _ (qy10 _ (qy8 ..))⟩),h⟩
theorem gSx0(l:List SesX)(i:Nat):Value.gS (((l.map Zh).getD i []).getD 0 undef)=(l.getD i sxD).1.cl:=by simp only[qy1,List.getElem?_map];cases l[i]?<;>simp[Zh,Value.gS,undef,s0]
theorem Zfc{l:List SesX}{i:Nat}(h:i<l.length):(l.map Zh).getD i []=Zh (l.getD i sxD):=by rw[qy1,qy1,List.getElem?_map,qy7 h];rfl
theorem Zh0{l:List SesX}{i:Nat}(h:i<l.length):l.getD i sxD∈l:=by rw[qy1,qy7 h];exact List.getElem_mem h
theorem Zzb(l:List SesX)(i:Nat):(l.map (·.1)).getD i s0=(l.getD i sxD).1:=by rw[qy1,qy1,List.getElem?_map];cases l[i]?<;>rfl
