/- By an AI agent. -/
import Derived.Test.YtimapehenhbloaaGreatDoorH21
set_option linter.all false
set_option maxHeartbeats 20000000
set_option maxRecDepth 100000
open Nat renaming reduceAdd→ra
open Nat renaming mul_le_mul_right→ϐ,le_refl→Ϥ,sub_mul→ϩ,add_mul→β,le_of_lt→ν,add_zero→ξ,sub_self→π,min_eq_left→χ,zero_le→Θ
open Option renaming some→ϑ,none→ϓ,map_eq_some_iff→ϯ,mem_toList→γ,getD_none→μ
open Go.Proofs.Tryz renaming prog→ϒ
open List renaming take_append_of_le_length→ϔ,length_take→ϖ,pairwise_append→ϙ,size_toArray→Ϝ,length_drop→Ϟ,getElem?_take→Ϡ,map_append→Ϣ,filter_cons→ϣ,take_of_length_le→ϥ,mem_append_right→Ϧ,getElem?_eq_none→ϧ,append_assoc→Ϩ,flatten_append→ϫ,getD_cons_zero→Ϭ,range→ϭ,pairwise_singleton→Ϯ,getElem?_map→ϰ,length_filter_le→ϱ,mem_of_mem_drop→ϲ,nil_append→ϳ,append_nil→Ϸ,toList_toArray→ϸ,take_take→Ϻ,pairwise_cons→ϻ,mem_cons→δ,map_cons→ε,getElem_mem→ζ,take_length→η,cons_append→θ,filter_eq_nil_iff→υ,map_nil→φ,length_set→ψ,eq_nil_or_concat→ω,concat_eq_append→Γ,mem_of_mem_take→Δ,mem_iff_getElem→Ξ,cons→Φ,filter_eq_self→Ψ,getElem?_range→Ω
open Go renaming Value→ϕ,World→Ϛ,Calls→Ϫ
open Array renaming length_toList→ϗ,getElem?_eq_some_iff→Ϲ
open Bool renaming true→Ϙ
namespace Go.Sx
open Go Go.Shelf Go.RowKit Go.Lib
variable{P:Program}{τ σ K:Nat}
def Z1hf(hu:P.underlying σ=ϑ (.slice τ))(hsz:(P.info? τ).map (·.size)=ϑ K)(w:Ϛ)(g n c i vb m vc:Nat)(cs vs:List ϕ)(cur vcur cur2:Array ϕ)(hi:i<n)(hm:0<m)(hroom:n+m<=c)(hc63:c<=9223372036854775807)(hvb:vb≠g)(hg:w.heap[g]?=ϑ (.cells cur τ (0,0)))(hcs:cur.size=c*K)(hv:w.heap[vb]?=ϑ (.cells vcur τ (0,0)))(hvl:m*K<=vcur.size)(e1:cs=(cur.toList.drop (i*K)).take ((n - i)*K))(e2:vs=vcur.toList.take (m*K))(h1c:∀v∈cs,v.oneCell'=Ϙ)(h1v:∀v∈vs,v.oneCell'=Ϙ)(e3:cur2.toList=cur.toList.take (i*K)++vs++cs++cur.toList.drop ((n+m)*K)): ∃cur1:Array ϕ, (∀ty dc sc,(Builtin.copy_ #[σ,σ] ty #[.slice (ϑ ⟨g,(i+m)*K,ϓ⟩) (n+m - (i+m)) dc,.slice (ϑ ⟨g,i*K,ϓ⟩) (n+m - i) sc]).run P w.drew=.ok (goInt ((n - i:Nat):Int)) (w.drew.setRow g cur1)) /\ (∀(W:Ϛ),W.heap=(w.drew.setRow g cur1).heap->∀ty dc,(Builtin.copy_ #[σ,σ] ty #[.slice (ϑ ⟨g,i*K,ϓ⟩) (n+m - i) dc,.slice (ϑ ⟨vb,0,ϓ⟩) m vc]).run P W=.ok (goInt m) (W.setRow g cur2)):=by
 have p1:=β n m K;have p2:=β i m K;have p3:=ϩ n i K;have p4:(n+m)*K<=c*K:=ϐ _ hroom;have p5:i*K<=n*K:=ϐ _ (ν hi);have hcl:cs.length=(n - i)*K:=by rw[e1];simp;omega
 have hvl2:vs.length=m*K:=by rw[e2];simp;omega
 have hgd:w.drew.heap[g]?=ϑ (.cells cur τ (0,0)):=hg;have hcp1:∀ty dc sc,(Builtin.copy_ #[σ,σ] ty #[.slice (ϑ ⟨g,(i+m)*K,ϓ⟩) (n+m - (i+m)) dc,.slice (ϑ ⟨g,i*K,ϓ⟩) (n+m - i) sc]).run P w.drew=.ok (goInt ((n - i:Nat))) (w.drew.setRow g (cur.toList.take ((i+m)*K)++cs++cur.toList.drop ((i+m)*K+cs.length)).toArray):=λty dc sc =>
  Z5q w.drew σ σ ty τ K g ((i+m)*K) (n+m - (i+m)) dc ⟨g,i*K,ϓ⟩ (n+m - i) sc cur τ cs (n - i) O hu hsz hgd hcl (λj v hj=>by
   rw[e1,Ϡ]at hj;split at hj
   ·rw[Addr.add_lit];simp only[World.cell?,hgd];simpa using hj
   cases hj) (by rw[hcl];omega) h1c
 obtain⟨cur1,hcur1⟩:∃cur1:Array ϕ,cur1=(cur.toList.take ((i+m)*K)++cs++cur.toList.drop ((i+m)*K+cs.length)).toArray:=⟨_,rfl⟩
 rw[<- hcur1]at hcp1;have hs1:cur1.size=cur.size:=by rw[hcur1];simp only[Ϝ,qy11,ϖ,Ϟ,ϗ,hcl];omega
 have hcp2:∀(W:Ϛ),W.heap=(w.drew.setRow g cur1).heap->∀ty dc,(Builtin.copy_ #[σ,σ] ty #[.slice (ϑ ⟨g,i*K,ϓ⟩) (n+m - i) dc,.slice (ϑ ⟨vb,0,ϓ⟩) m vc]).run P W=.ok (goInt m) (W.setRow g cur2):=λW hW ty dc=>by
  have hgW:W.heap[g]?=ϑ (.cells cur1 τ (0,0)):=by rw[hW];exact setRow_heap _ _ _ _ _ _ hgd
  have hvW:W.heap[vb]?=ϑ (.cells vcur τ (0,0)):=by rw[hW,setRow_other _ _ _ _ hvb];exact hv
  have:=Z5q W σ σ ty τ K g (i*K) (n+m - i) dc ⟨vb,0,ϓ⟩ m vc cur1 τ vs m O hu hsz hgW hvl2 (λj v hj=>by
   rw[e2,Ϡ]at hj;split at hj
   ·rw[Addr.add_lit];simp only[World.cell?,hvW,Nat.zero_add];simpa using hj
   cases hj) (by rw[hvl2,hs1];omega) h1v
  rw[this];congr 2;apply Array.toList_inj.1;rw[e3,hcur1];rw[Z1e3 cur.toList cs vs (i*K) ((i+m)*K) ((n+m)*K) (by rw[hvl2];omega) (by rw[hcl];omega) O3]
 exact⟨cur1,hcp1,hcp2⟩
def Z1jv{ι BY:Nat}(hu:P.underlying σ=ϑ (.slice τ))(hui:P.underlying ι=ϑ (.int .i64)){i0:TypeInfo}{z:ϕ}(hi0:P.info? τ=ϑ i0)(hk:i0.size=K)(hby:i0.bytes=BY)(hB:1<=BY)(hK0:0<K)(hz:i0.zero=ϑ z)(hzs:z.cells.size=K)(w:Ϛ)(g n c i vb m vc:Nat)(hd cs vs:List ϕ)(cur vcur:Array ϕ)(hi:i<n)(hm:0<m)(hnc:n<=c)(hroom:c<n+m)(hbig:(n+m)*BY<=140737488355328)(hg:w.heap[g]?=ϑ (.cells cur τ (0,0)))(hcs:cur.size=c*K)(hv:w.heap[vb]?=ϑ (.cells vcur τ (0,0)))(hvl:m*K<=vcur.size)(e0:hd=cur.toList.take (i*K))(e1:cs=(cur.toList.drop (i*K)).take ((n - i)*K))(e2:vs=vcur.toList.take (m*K))(h1c:∀v∈cs,v.oneCell'=Ϙ)(h1v:∀v∈vs,v.oneCell'=Ϙ): ∃(G:Nat) (ROW cur2 cur3:Array ϕ),n+m<=G/\G<=maxLen /\ (∀ty,(Builtin.append_ #[σ,ι] ty #[.slice (ϑ ⟨g,0,ϓ⟩) i c,.int .i64 ((n:Int)+(m:Int) - (i:Int))]).run P w=.ok (.slice (ϑ ⟨w.heap.size,0,ϓ⟩) (n+m) G) (w.drew.alloc (.cells ROW τ))) /\ (∀(W:Ϛ),W.heap=(w.drew.alloc (.cells ROW τ)).heap->∀ty dc,(Builtin.copy_ #[σ,σ] ty #[.slice (ϑ ⟨w.heap.size,i*K,ϓ⟩) (n+m - i) dc,.slice (ϑ ⟨vb,0,ϓ⟩) m vc]).run P W=.ok (goInt m) (W.setRow w.heap.size cur2)) /\ (∀(W:Ϛ),W.heap=((w.drew.alloc (.cells ROW τ)).setRow w.heap.size cur2).heap->∀ty dc sc,(Builtin.copy_ #[σ,σ] ty #[.slice (ϑ ⟨w.heap.size,(i+m)*K,ϓ⟩) (n+m - (i+m)) dc,.slice (ϑ ⟨g,i*K,ϓ⟩) (n - i) sc]).run P W=.ok (goInt ((n - i:Nat):Int)) (W.setRow w.heap.size cur3)) /\ cur3.size=G*K/\cur3.toList.take ((n+m)*K)=hd++vs++cs /\ (∀W:Ϛ,W.heap=((w.drew.alloc (.cells ROW τ)).setRow w.heap.size cur2).heap->W.os=w.os->W.tape=w.tape->W.output=w.output->(W.setRow w.heap.size cur3).heap[w.heap.size]?=ϑ (.cells cur3 τ (0,0))/\w.grownBy (W.setRow w.heap.size cur3) ϓ):=by
 have hsz:(P.info? τ).map (·.size)=ϑ K:=by rw[hi0];exact congrArg ϑ hk
 have p1:=β n m K;have p2:=β i m K;have p3:=ϩ n i K;have p4:n*K<=c*K:=ϐ _ hnc;have p6:(n+m)*1<=(n+m)*BY:=Nat.mul_le_mul_left _ hB;have p7:=ϩ (n+m) i K;have p0:(n+m - i)*BY<=(n+m)*BY:=ϐ _ O;have p5:i*K<=n*K:=ϐ _ (ν hi);have hbw:g<w.heap.size:=(Ϲ.1 hg).1;have hvw:vb<w.heap.size:=(Ϲ.1 hv).1;have hkk:(n)+(m) - (i)=((n+m - i:Nat):Int):=O;have hik:i+(n+m - i)=n+m:=O;have hgd:w.drew.heap[g]?=ϑ (.cells cur τ (0,0)):=hg;have hhl:hd.length=i*K:=by rw[e0];simp;omega
 have hold:(Builtin.firstCells i0.size i (.slice (ϑ ⟨g,0,ϓ⟩) i c)).run P w.drew=.ok hd.toArray w.drew:=by
  rw[hk];exact run_firstCells_some w.drew K i ⟨g,0,ϓ⟩ i c hd hhl (λj v hj=>by
   rw[Addr.add_lit];rw[e0,Ϡ]at hj;split at hj
   ·simp only[World.cell?,hgd,Nat.zero_add];simpa using hj
   cases hj)
 have hrz:∀ty,(Builtin.append_ #[σ,ι] ty #[.slice (ϑ ⟨g,0,ϓ⟩) i c,.int .i64 ((n)+(m) - (i))]).run P w =
   .ok (.slice (ϑ ⟨w.heap.size,0,ϓ⟩) (n+m) (grownCap w (n+m) c τ)) (w.drew.alloc (.cells (hd.toArray++Builtin.zeroCells z.cells (n+m - i)++Builtin.zeroCells z.cells (grownCap w (n+m) c τ - (n+m))) τ)):=λty=>by
  have h:=Lib.run_append_grow_zeros w σ ι ty τ i0 z .i64 .i64 hu hui hi0 hz (ϑ ⟨g,0,ϓ⟩) i c hd hold (n+m - i) O (by rw[hk];exact hK0) O O (by rw[hby];omega) (by rw[hby,hik];exact growslice_fits hroom hbig);rw[hik]at h;rw[hkk];exact h
 obtain⟨G,hG⟩:∃G,G=grownCap w (n+m) c τ:=⟨_,rfl⟩
 obtain⟨ROW,hROW⟩:∃ROW:Array ϕ,ROW=hd.toArray++Builtin.zeroCells z.cells (n+m - i)++Builtin.zeroCells z.cells (G - (n+m)):=⟨_,rfl⟩
 rw[<- hG]at hrz;rw[<- hROW]at hrz;have hGn:n+m<=G:=by rw[hG];exact grownCap_ge w _ _ _
 have hG63:G<=maxLen:=by have:=grownCap_le_maxLen w (n+m) c τ (by unfold maxLen;omega);rw[<- hG]at this;exact this
 have hG63':G<=9223372036854775807:=hG63;have p8:=ϩ G (n+m) K;have p9:(n+m)*K<=G*K:=ϐ _ hGn;have hRl:ROW.size=G*K:=by rw[hROW];simp only[Array.size_append,Ϝ,Zc7,hzs,hhl];omega
 have hRt:ROW.toList.take (i*K)=hd:=by rw[hROW];simp only[Array.toList_append,ϸ,Ϩ];rw[ϔ O,ϥ O]
 have hcl:cs.length=(n - i)*K:=by rw[e1];simp;omega
 have hvl2:vs.length=m*K:=by rw[e2];simp;omega
 obtain⟨W1,hW1⟩:∃W1,W1=w.drew.alloc (.cells ROW τ):=⟨_,rfl⟩
 rw[<- hW1]at hrz;have hN:W1.heap[w.heap.size]?=ϑ (.cells ROW τ (0,0)):=by rw[hW1];exact heap_alloc_new w.drew _
 have hO:∀k,k<w.heap.size->W1.heap[k]?=w.heap[k]?:=λk hk=>by rw[hW1];exact heap_alloc_old w.drew _ hk
 obtain⟨cur2,hcur2⟩:∃cur2:Array ϕ,cur2=(ROW.toList.take (i*K)++vs++ROW.toList.drop (i*K+vs.length)).toArray:=⟨_,rfl⟩
 obtain⟨cur3,hcur3⟩:∃cur3:Array ϕ,cur3=(cur2.toList.take ((i+m)*K)++cs++cur2.toList.drop ((i+m)*K+cs.length)).toArray:=⟨_,rfl⟩
 have hs2:cur2.size=ROW.size:=by rw[hcur2];simp only[Ϝ,qy11,ϖ,Ϟ,ϗ,hvl2];omega
 have hs3:cur3.size=ROW.size:=by rw[hcur3];simp only[Ϝ,qy11,ϖ,Ϟ,ϗ,hcl,hs2];omega
 have ht3:cur3.toList.take ((n+m)*K)=hd++vs++cs:=by rw[hcur3,hcur2];simp only[ϸ];rw[hRt,Z1e4 hd vs cs _ ((i+m)*K) O];rw[ϔ (by simp only[qy11];omega),ϥ (by simp only[qy11];omega)]
 have hcpA:∀(W:Ϛ),W.heap=W1.heap->∀ty dc,(Builtin.copy_ #[σ,σ] ty #[.slice (ϑ ⟨w.heap.size,i*K,ϓ⟩) (n+m - i) dc,.slice (ϑ ⟨vb,0,ϓ⟩) m vc]).run P W=.ok (goInt m) (W.setRow w.heap.size cur2):=λW hW ty dc=>by
  rw[hcur2];exact Z5q W σ σ ty τ K w.heap.size (i*K) (n+m - i) dc ⟨vb,0,ϓ⟩ m vc ROW τ vs m O hu hsz (by rw[hW];exact hN) hvl2 (λj v hj=>by
   rw[e2,Ϡ]at hj;split at hj
   ·rw[Addr.add_lit];simp only[World.cell?,hW,hO vb hvw,hv,Nat.zero_add];simpa using hj
   cases hj) (by rw[hvl2,hRl];omega) h1v
 have hcpB:∀(W:Ϛ),W.heap=(W1.setRow w.heap.size cur2).heap->∀ty dc sc,(Builtin.copy_ #[σ,σ] ty #[.slice (ϑ ⟨w.heap.size,(i+m)*K,ϓ⟩) (n+m - (i+m)) dc,.slice (ϑ ⟨g,i*K,ϓ⟩) (n - i) sc]).run P W=.ok (goInt ((n - i:Nat))) (W.setRow w.heap.size cur3):=λW hW ty dc sc=>by
  rw[hcur3];exact Z5q W σ σ ty τ K w.heap.size ((i+m)*K) (n+m - (i+m)) dc ⟨g,i*K,ϓ⟩ (n - i) sc cur2 τ cs (n - i) O hu hsz (by rw[hW];exact setRow_heap _ _ _ _ _ _ hN) hcl (λj v hj=>by
   rw[e1,Ϡ]at hj;split at hj
   ·rw[Addr.add_lit];simp only[World.cell?,hW,setRow_other _ _ _ _ (Nat.ne_of_lt hbw),hO g hbw,hg];simpa using hj
   cases hj) (by rw[hcl,hs2,hRl];omega) h1c
 subst hW1;exact⟨G,ROW,cur2,cur3,hGn,hG63,hrz,hcpA,hcpB,by rw[hs3,hRl],ht3,λW hW ho ht hou=>⟨setRow_heap _ _ _ _ _ _ (by rw[hW];exact setRow_heap _ _ _ _ _ _ hN),ho,ht,hou,by rw[setRow_size,hW,setRow_size];exact ν (by show w.heap.size<(w.heap.push _).size;rw[Array.size_push];omega),λk hk _=>by rw[setRow_other _ _ _ _ O,hW,setRow_other _ _ _ _ O];exact hO k hk⟩⟩
def Zft(P:Program)(f:FuncId):Prop:=∀(w:Ϛ) (b:Option Addr) (n c i:Nat) (vb:Option Addr) (vc:Nat),i<=n->n<=c->(b=ϓ->c=0) ->
  Ϫ P f #[.slice b n c,.int .i64 i,.slice vb 0 vc] w λe w'=>e=.returned (.slice b n c)/\w'=w
def Zmj(P:Program)(f:FuncId)(σ:Nat):Prop:=∀(w:Ϛ) (b:Option Addr) (n c:Nat) (vb:Option Addr) (m vc:Nat),0<m->n<=c->(b=ϓ->c=0)->∀(v':ϕ) (w':Ϛ),
  (∀ty,(Builtin.append_ #[σ,σ] ty #[.slice b n c,.slice vb m vc]).run P w=.ok v' w') ->
  Ϫ P f #[.slice b n c,.int .i64 n,.slice vb m vc] w λe w1=>e=.returned v'/\w1=w'
def Zbm(P:Program)(f ov:FuncId)(σ K:Nat):Prop:=∀(w:Ϛ) (g n c i vb m vc:Nat) (cur1 cur2:Array ϕ),i<n->0<m->n+m<=c->c<=9223372036854775807 ->
  (∀o lb cb,(callFunc ov #[.slice (ϑ ⟨vb,0,ϓ⟩) m vc,.slice (ϑ ⟨g,o,ϓ⟩) lb cb]).run P w=.ok (.value (.bool false)) w) ->
  (∀ty dc sc,(Builtin.copy_ #[σ,σ] ty #[.slice (ϑ ⟨g,(i+m)*K,ϓ⟩) (n+m - (i+m)) dc,.slice (ϑ ⟨g,i*K,ϓ⟩) (n+m - i) sc]).run P w.drew=.ok (goInt ((n - i:Nat):Int)) (w.drew.setRow g cur1)) ->
  (∀(W:Ϛ),W.heap=(w.drew.setRow g cur1).heap->∀ty dc,(Builtin.copy_ #[σ,σ] ty #[.slice (ϑ ⟨g,i*K,ϓ⟩) (n+m - i) dc,.slice (ϑ ⟨vb,0,ϓ⟩) m vc]).run P W=.ok (goInt m) (W.setRow g cur2)) ->
  Ϫ P f #[.slice (ϑ ⟨g,0,ϓ⟩) n c,.int .i64 i,.slice (ϑ ⟨vb,0,ϓ⟩) m vc] w λe w'=>e=.returned (.slice (ϑ ⟨g,0,ϓ⟩) (n+m) c)/\w'=w.drew.setRow g cur2
def Zfu(P:Program)(f:FuncId)(τ σ ι K:Nat):Prop:=∀(w:Ϛ) (g n c i vb m vc G:Nat) (ROW cur2 cur3:Array ϕ),i<n->0<m->n<=c->c<n+m->n+m<=G->G<=9223372036854775807 ->
  (∀ty,(Builtin.append_ #[σ,ι] ty #[.slice (ϑ ⟨g,0,ϓ⟩) i c,.int .i64 ((n:Int)+(m:Int) - (i:Int))]).run P w=.ok (.slice (ϑ ⟨w.heap.size,0,ϓ⟩) (n+m) G) (w.drew.alloc (.cells ROW τ))) ->
  (∀(W:Ϛ),W.heap=(w.drew.alloc (.cells ROW τ)).heap->∀ty dc,(Builtin.copy_ #[σ,σ] ty #[.slice (ϑ ⟨w.heap.size,i*K,ϓ⟩) (n+m - i) dc,.slice (ϑ ⟨vb,0,ϓ⟩) m vc]).run P W=.ok (goInt m) (W.setRow w.heap.size cur2)) ->
  (∀(W:Ϛ),W.heap=((w.drew.alloc (.cells ROW τ)).setRow w.heap.size cur2).heap->∀ty dc sc,(Builtin.copy_ #[σ,σ] ty #[.slice (ϑ ⟨w.heap.size,(i+m)*K,ϓ⟩) (n+m - (i+m)) dc,.slice (ϑ ⟨g,i*K,ϓ⟩) (n - i) sc]).run P W=.ok (goInt ((n - i:Nat):Int)) (W.setRow w.heap.size cur3)) ->
  ∀Q:Ending->Ϛ->Prop,
  (∀W:Ϛ,W.heap=((w.drew.alloc (.cells ROW τ)).setRow w.heap.size cur2).heap->W.os=w.os->W.tape=w.tape->W.output=w.output->Q (.returned (.slice (ϑ ⟨w.heap.size,0,ϓ⟩) (n+m) G)) (W.setRow w.heap.size cur3)) ->
  Ϫ P f #[.slice (ϑ ⟨g,0,ϓ⟩) n c,.int .i64 i,.slice (ϑ ⟨vb,0,ϓ⟩) m vc] w Q
variable{i m:Nat}
def insN{n:Nat}(hi:i<n)(hm:0<m)(hc:n+m<=9223372036854775807):¬((m:Int)=0)/\¬((i:Int)=(n:Int))/\IntKind.i64.wrap ((i:Int)+(m:Int))=(i:Int)+(m:Int)/\IntKind.i64.wrap ((n:Int)+(m:Int))=(n:Int)+(m:Int)/\(0:Int)<=(i:Int)+(m:Int)/\i<=n/\((i:Int)+(m:Int)).toNat=i+m/\((n:Int)+(m:Int)).toNat=n+m/\(i:Int)<=(n:Int)+(m:Int)/\(i:Int)<=(n:Int):=by refine⟨?_,?_,by rw[IntKind.wrap_i64];omega,by rw[IntKind.wrap_i64];omega,?_,?_,?_,?_,?_,?_⟩<;>omega
def Zjo{f ov:FuncId}{ι bt BY:Nat}{ks:List Kd}(hu:P.underlying σ=ϑ (.slice τ))(hui:P.underlying ι=ϑ (.int .i64))(hI:(P.info? τ).map (λi=>(i.size,i.bytes,i.zero.map (·.cells.size)))=ϑ (K,BY,ϑ K))(hK:K=ks.length)(hK0:0<K)(hB:0<BY)(hOV:∀args w,(callFunc ov args).run P w=((Extern.SlicesOverlaps.overlaps #[σ,σ] #[bt] args).run P w).andThen λv w'=>.ok (.value v) w')(h1:Zft P f)(h2:Zmj P f σ)(h3:Zbm P f ov σ K)(h4:Zfu P f τ σ ι K)(w:Ϛ)(s v:ϕ)(i:Nat)(R V:List (List ϕ))(hs:owns w s τ ks R)(hv:owns w v τ ks V)(hne:∀k,Z1 s k->Z1 v k->False)(hi:i<=R.length)(hb:(R.length+V.length)*BY<=140737488355328): Ϫ P f #[s,.int .i64 i,v] w λe w'=>∃v',e=.returned v'/\Zc8 w w' s v' τ ks (R.take i++V++R.drop i):=by
 subst hK;obtain⟨inf,hinf,hI⟩:=ϯ.1 hI;have hk:inf.size=ks.length:=congrArg (·.1) hI;have hby:inf.bytes=BY:=congrArg (·.2.1) hI;obtain⟨z,hz,hzs⟩:=ϯ.1 (congrArg (·.2.2) hI);have hsz:(P.info? τ).map (·.size)=ϑ ks.length:=by rw[hinf];exact congrArg ϑ hk
 have hs':=hs;have hv':=hv;obtain⟨hk1,hl1,ho⟩:=hs;obtain⟨hk2,hl2,hov⟩:=hv;have hrl1:∀r∈R,r.length=ks.length:=λr hr=>(hk1 r hr).length;have hrl2:∀r∈V,r.length=ks.length:=λr hr=>(hk2 r hr).length;have hbase:∀{v:ϕ} {n:Nat} {xs:List ϕ},((v=.slice ϓ 0 0/\n=0)\/∃g cap cur,v=.slice (ϑ ⟨g,0,ϓ⟩) n cap/\0<=g/\w.heap[g]?=ϑ (.cells cur τ (0,0))/\n<=cap/\cap<=maxLen/\cur.size=cap*ks.length/\cur.toList.take (n*ks.length)=xs)->∃b c,v=.slice b n c/\n<=c/\(b=ϓ->c=0):=by
  intro v n xs h;rcases h with⟨rfl,rfl⟩|⟨g,cap,cur,rfl,-,-,h,-⟩
  ·exact⟨ϓ,0,rfl,Ϥ _,λ_=>rfl⟩
  exact⟨ϑ ⟨g,0,ϓ⟩,cap,rfl,h,λh=>by cases h⟩
 by_cases hV:V=[]
 ·subst hV;obtain⟨b,c,rfl,hc1,hc2⟩:=hbase ho;obtain⟨vb,vc,rfl,-,-⟩:=hbase hov;refine(h1 w b R.length c i vb vc hi hc1 hc2).mono ?_;rintro e w' ⟨rfl,rfl⟩;exact⟨_,rfl,by simpa using hs',λk hk=>.inl hk,Zzo _ _⟩
 have hVl:0<V.length:=List.length_pos_iff.2 hV;by_cases hin:i=R.length
 ·subst hin;obtain⟨b,c,rfl,hc1,hc2⟩:=hbase ho;obtain⟨vb,vc,rfl,-,-⟩:=hbase hov;obtain⟨v',w',e1,e2,e3,e4⟩:=Zm2 (ty:=σ) hu hinf hz hk hzs hby hK0 hs' hv'.reads hb hB;have hrun:∀ty,(Builtin.append_ #[σ,σ] ty #[.slice b R.length c,.slice vb V.length vc]).run P w=.ok v' w':=λty=>e1;refine(h2 w b R.length c vb V.length vc hVl hc1 hc2 v' w' hrun).mono ?_;rintro e w1 ⟨rfl,rfl⟩;exact⟨_,rfl,by simpa using e2,e4,e3⟩
 have hin:i<R.length:=O;rcases ho with⟨-,hn⟩|⟨g,c,cur,rfl,-,hg,hnc,hcm,hcs,htk⟩
 ·omega
 rcases hov with⟨-,hn⟩|⟨vb,vc,vcur,rfl,-,hvg,hvn,-,hvs,hvt⟩
 ·omega
 replace hcs:cur.size=c*ks.length:=hcs;replace hvs:vcur.size=vc*ks.length:=hvs;replace htk:cur.toList.take (R.length*ks.length)=R.flatten:=htk;replace hvt:vcur.toList.take (V.length*ks.length)=V.flatten:=hvt;replace hl1:R.flatten.length=R.length*ks.length:=hl1;have hcl2:cur.toList.length=c*ks.length:=by rw[ϗ];exact hcs
 replace hl2:V.flatten.length=V.length*ks.length:=hl2;have hvb:vb≠g:=λe=>hne g rfl (by rw[<- e];rfl);have t1:cur.toList.take (i*ks.length)=(R.take i).flatten:=by rw[<- Z9r i hrl1,<- htk,Ϻ,χ (ϐ _ hi)]
 have t2:(cur.toList.drop (i*ks.length)).take ((R.length - i)*ks.length)=(R.drop i).flatten:=by rw[<- Z9s i hrl1,<- htk,List.drop_take,ϩ]
 have o1:∀x∈(R.drop i).flatten,x.oneCell'=Ϙ:=Zor λr hr=>hk1 r (ϲ hr);have o2:∀x∈V.flatten,x.oneCell'=Ϙ:=Zor hk2;have hrows:∀r∈R.take i++V++R.drop i,rowOk ks r:=by
  intro r hr;simp only[qy13]at hr;rcases hr with(hr|hr)|hr
  ·exact hk1 r (Δ hr)
  ·exact hk2 r hr
  exact hk1 r (ϲ hr)
 have hlen:(R.take i++V++R.drop i).length=R.length+V.length:=O3;have hfl:(R.take i++V++R.drop i).flatten.length=(R.length+V.length)*ks.length:=by have:=Zk (λr hr=>(hrows r hr).length);rw[hlen]at this;exact this
 by_cases hroom:R.length+V.length<=c
 ·have p4:=ϐ ks.length hroom;obtain⟨cur2,hcur2⟩:∃cur2:Array ϕ,cur2=(cur.toList.take (i*ks.length)++V.flatten++(R.drop i).flatten++cur.toList.drop ((R.length+V.length)*ks.length)).toArray:=⟨_,rfl⟩
  obtain⟨cur1,c1,c2⟩:=Z1hf hu hsz w g R.length c i vb V.length vc (R.drop i).flatten V.flatten cur vcur cur2 hin hVl hroom hcm hvb hg hcs hvg (by rw[hvs];exact ϐ _ hvn) t2.symm hvt.symm o1 o2 (by rw[hcur2]);refine(h3 w g R.length c i vb V.length vc cur1 cur2 hin hVl hroom hcm (λo lb cb=>by rw[hOV,Lib.run_overlaps_apart w σ bt τ hu ks.length (λw=>by simp[sizeOf,typeInfo,hinf,hk]) ⟨vb,0,ϓ⟩ ⟨g,o,ϓ⟩ V.length vc lb cb hvb τ τ vcur.size cur.size (by simp[World.shape?,hvg]) (by simp[World.shape?,hg]) (by rw[hcs];exact Nat.pos_iff_ne_zero.1 (Nat.mul_pos O hK0)) (by simp[World.frozen?,hvg]) (by simp[World.frozen?,hvg])];rfl) c1 c2).mono ?_;rintro e w' ⟨rfl,rfl⟩;have hgd:w.drew.heap[g]?=ϑ (.cells cur τ (0,0)):=hg;refine⟨_,rfl,⟨hrows,by rw[hfl,hlen],.inr ⟨g,c,cur2,by rw[hlen],Θ _,setRow_heap _ _ _ _ _ _ hgd,O,hcm,?_,?_⟩⟩,λk hk=>.inl hk,rfl,rfl,rfl,by rw[setRow_size];exact Ϥ _,λk hk hkr=>setRow_other _ _ _ _ (λe=>hkr (by rw[e];rfl))⟩
  ·show cur2.size=c*ks.length
   rw[hcur2];have:(cur.toList.take (i*ks.length)++V.flatten++(R.drop i).flatten).length=(R.length+V.length)*ks.length:=by rw[t1,<- hfl];simp[ϫ]
   rw[Ϝ,qy11,this,Ϟ,hcl2];omega
  have:cur.toList.take (i*ks.length)++V.flatten++(R.drop i).flatten=(R.take i++V++R.drop i).flatten:=by rw[t1];simp[ϫ]
  show cur2.toList.take (_*ks.length)=_
  rw[hcur2,ϸ,this,hlen,ϔ O,ϥ O]
 obtain⟨G,ROW,cur2,cur3,a1,a2,a3,a4,a5,q3,q4,a6⟩:=Z1jv hu hui hinf hk hby hB hK0 hz hzs w g R.length c i vb V.length vc (R.take i).flatten (R.drop i).flatten V.flatten cur vcur hin hVl hnc O hb hg hcs hvg (by rw[hvs];exact ϐ _ hvn) t1.symm t2.symm hvt.symm o1 o2;refine h4 w g R.length c i vb V.length vc G ROW cur2 cur3 hin hVl hnc O a1 a2 a3 a4 a5 _ λW hW ho ht hou=>?_;obtain⟨q5,q6⟩:=a6 W hW ho ht hou;refine⟨_,rfl,⟨hrows,by rw[hfl,hlen],.inr ⟨w.heap.size,G,cur3,by rw[hlen],Θ _,q5,O,a2,q3,?_⟩⟩,λk hk=>.inr (by have:w.heap.size=k:=Option.some.inj hk;omega),q6.os,q6.tape,q6.output,q6.size,λk hk _=>q6.block k hk O1⟩;rw[hlen]
 show cur3.toList.take ((R.length+V.length)*ks.length)=_
 rw[q4];simp[ϫ]
end Go.Sx
namespace Go.Proofs.Y
open Go Go.Sx Go.Shelf Go.RowKit Go.Lib
def Z133:Zft ϒ 280:=by
 intro w b n c i vb vc hi hc hb;go_enter Tryz.func280,Tryz.ntmps280;go_wp2
 all_goals (go_ret;exact⟨rfl,rfl⟩)
def Z190:Zmj ϒ 280 22:=by
 intro w b n c vb m vc hm hc hb v' w' hrun;have hz1:¬((m)=0):=O;go_enter Tryz.func280,Tryz.ntmps280
 go_wp2_with (at_builtin;refine Lib.wpList_append_run _ rfl _ _ _ _ rfl _ _ rfl rfl _ _ (hrun _) ?_)
 all_goals (go_ret;exact⟨rfl,rfl⟩)
def Zzp:Zbm ϒ 280 316 22 3:=by
 intro w g n c i vb m vc cur1 cur2 hi hm hroom hc63 hov hcp1 hcp2;obtain⟨hz1,hz2,hw1,hw2,hb1,hin,htn,htn2,hb3,-⟩:=insN hi hm O;have hb2:¬(c=i+m):=O;have hb4:¬(c=i):=O;have mixed:Tryz.prog.follows Departure.mixedOrders=Ϙ:=O2;go_enter Tryz.func280,Tryz.ntmps280
 go_wp2_with (simp only)
 go_region_law_o (refine step_copy_runI rfl _ _ 22 22 rfl _ _ O1 O1 (hcp1 _ _ _) ?_)
 go_wp2_with (at_builtin;refine wpList_copy_runI _ rfl _ _ 22 22 rfl _ _ rfl rfl (hcp2 _ rfl _ _) ?_)
 go_ret
 first|exact⟨rfl,rfl⟩|exact⟨rfl,by rw[setRow_setRow]⟩
def Z134:Zfu ϒ 280 111 22 3 3:=by
  intro w g n c i vb m vc G ROW cur2 cur3 hi hm hnc hroom hGn hG63 hrz hcpA hcpB Q hfin;obtain⟨hz1,hz2,hw1,-,hb1,hin,htn,-,-,hb3⟩:=insN hi hm O;have hz3:(c)<(n)+(m):=O;have hGi:¬(G=i):=O;have hGim:¬(G=i+m):=O;have hci:¬(c=i):=O;have mixed:Tryz.prog.follows Departure.mixedOrders=Ϙ:=O2;have hE1:((w.alloc (.cells ROW 111)).drew).heap=(w.drew.alloc (.cells ROW 111)).heap:=rfl;have hF1:(((w.alloc (.cells ROW 111)).drew.setRow w.heap.size cur2).drew).heap=((w.drew.alloc (.cells ROW 111)).setRow w.heap.size cur2).heap:=rfl;go_enter Tryz.func280,Tryz.ntmps280;go_wp2_with (first
    | (at_builtin;refine Lib.wpList_append_run _ rfl _ _ _ _ rfl _ _ rfl rfl _ _ (hrz _) ?_)
    | (at_builtin;refine wpList_copy_runI _ rfl _ _ 22 22 rfl _ _ rfl rfl (hcpA _ hE1 _ _) ?_)
    | (at_builtin;refine wpList_copy_runI _ rfl _ _ 22 22 rfl _ _ rfl rfl (hcpB _ hF1 _ _ _) ?_))
  go_region_law_o (refine step_copy_runI rfl _ _ 22 22 rfl (.slice (ϑ ⟨w.heap.size,(i+m)*3,ϓ⟩) (n+m - (i+m)) (G - (i+m))) (.slice (ϑ ⟨g,i*3,ϓ⟩) (n - i) (c - i)) O7 O7 (hcpB _ hF1 3 (G - (i+m)) (c - i)) ?_)
  go_wp2
  exact hfin _ rfl rfl rfl rfl
variable(w:Ϛ)
def Z135(s v:ϕ)(i:Nat)(R V:List (List ϕ))(hs:owns w s 111 [.str,.str,.int .i64] R)(hv:owns w v 111 [.str,.str,.int .i64] V)(hne:∀k,Z1 s k->Z1 v k->False)(hi:i<=R.length)(hb:(R.length+V.length)*40<=140737488355328): Ϫ ϒ 280 #[s,.int .i64 i,v] w λe w'=>∃v',e=.returned v'/\Zc8 w w' s v' 111 [.str,.str,.int .i64] (R.take i++V++R.drop i) :=
 Zjo (K:=3) Tryz.underlying22 Tryz.underlying3 O2 rfl U U (λargs w=>run_callFunc_extern Tryz.func316 O2 O2 O2 (e:=Extern.SlicesOverlaps.overlaps #[22,22] #[4]) O2 args w) Z133 Z190 Zzp Z134 w s v i R V hs hv hne hi hb
end Go.Proofs.Y
namespace Go.Sx
open Go Go.Shelf Go.RowKit Go.Lib
variable{P:Program}{τ σ K:Nat}
def cutI(hu:P.underlying σ=ϑ (.slice τ)){inf:TypeInfo}{z:ϕ}(hinf:P.info? τ=ϑ inf)(hk:inf.size=K)(hz:inf.zero=ϑ z)(hzs:z.cells.size=K)(hz1c:z.cells.toList.all (λv=>v.oneCell')=Ϙ)(hK0:0<K)(w:Ϛ)(g n c i j:Nat)(cur:Array ϕ)(hij:i<j)(hj:j<=n)(hnc:n<=c)(hc63:c<=9223372036854775807)(hg:w.heap[g]?=ϑ (.cells cur τ (0,0)))(hcs:cur.size=c*K)(h1c:∀v∈cur.toList.take (n*K),v.oneCell'=Ϙ): ∃cur1 cur2:Array ϕ, (∀(a:Addr),(n - j=0\/a=⟨g,j*K,ϓ⟩)->∀ty sc,(Builtin.append_ #[σ,σ] ty #[.slice (ϑ ⟨g,0,ϓ⟩) i c,.slice (ϑ a) (n - j) sc]).run P w.drew=.ok (.slice (ϑ ⟨g,0,ϓ⟩) (i+(n - j)) c) (w.drew.setRow g cur1)) /\ (∀(W:Ϛ),W.heap=(w.drew.setRow g cur1).heap->∀ty sc,(Builtin.clear_ #[σ] ty #[.slice (ϑ ⟨g,(i+(n - j))*K,ϓ⟩) (n - (i+(n - j))) sc]).run P W=.ok (.tuple #[]) (W.setRow g cur2)) /\ cur2.size=cur.size/\cur2.toList.take ((i+(n - j))*K)=cur.toList.take (i*K)++(cur.toList.drop (j*K)).take ((n - j)*K):=by
  have p1:=ϐ K hj;have p2:=ϐ K hnc;have p3:=ϩ n j K;have p4:=β i (n - j) K;have p5:=ϐ K (ν hij);have p6:=ϩ j i K;have hcl:cur.toList.length=c*K:=by rw[ϗ];exact hcs
  obtain⟨cs,hcs1⟩:∃cs,cs=(cur.toList.drop (j*K)).take ((n - j)*K):=⟨_,rfl⟩
  have hl:cs.length=(n - j)*K:=by rw[hcs1];simp only[ϖ,Ϟ];omega
  have hone:∀v∈cs,v.oneCell'=Ϙ:=λv hv=>h1c v (by
    rw[hcs1]at hv;have e:cur.toList.take (n*K)=cur.toList.take (j*K)++(cur.toList.drop (j*K)).take ((n - j)*K):=by rw[show n*K=j*K+(n - j)*K by omega,List.take_add]
    rw[e];exact Ϧ _ hv)
  have hgd:w.drew.heap[g]?=ϑ (.cells cur τ (0,0)):=hg;obtain⟨cur1,hcur1⟩:∃cur1:Array ϕ,cur1=(cur.toList.take (i*inf.size)++cs++cur.toList.drop (i*inf.size+cs.length)).toArray:=⟨_,rfl⟩
  obtain⟨zs,hzs1⟩:∃zs:List ϕ,zs=(Builtin.zeroCells z.cells (n - (i+(n - j)))).toList:=⟨_,rfl⟩
  have hzl:zs.length=(j - i)*K:=by rw[hzs1,ϗ,Zc7,hzs];congr 1;omega
  have hzo:∀v∈zs,v.oneCell'=Ϙ:=by intro v hv;rw[hzs1]at hv;exact Zos (by rw[hzs];exact hK0) (List.all_eq_true.1 hz1c) v hv
  obtain⟨cur2,hcur2⟩:∃cur2:Array ϕ,cur2=(cur1.toList.take ((i+(n - j))*K)++zs++cur1.toList.drop ((i+(n - j))*K+zs.length)).toArray:=⟨_,rfl⟩
  have hs1:cur1.size=cur.size:=by rw[hcur1,hk];simp only[Ϝ,qy11,ϖ,Ϟ,hcl,hl];omega
  have hcl1:cur1.toList.length=c*K:=by rw[ϗ,hs1];exact hcs
  have hs2:cur2.size=cur.size:=by rw[hcur2];simp only[Ϝ,qy11,ϖ,Ϟ,hcl1,hzl];omega
  have ht2:cur2.toList.take ((i+(n - j))*K)=cur.toList.take (i*K)++cs:=by
    rw[hcur2,hcur1,hk];have e1:(cur.toList.take (i*K)++cs++cur.toList.drop (i*K+cs.length)).take ((i+(n - j))*K)=cur.toList.take (i*K)++cs:=by rw[ϔ (by simp only[qy11,ϖ];omega),ϥ (by simp only[qy11,ϖ];omega)]
    rw[Ϩ,ϔ (by rw[e1];simp only[qy11,ϖ];omega),Ϻ,Nat.min_self,e1]
  have happ:∀(a:Addr),(n - j=0\/a=⟨g,j*K,ϓ⟩)->∀ty sc,(Builtin.append_ #[σ,σ] ty #[.slice (ϑ ⟨g,0,ϓ⟩) i c,.slice (ϑ a) (n - j) sc]).run P w.drew=.ok (.slice (ϑ ⟨g,0,ϓ⟩) (i+(n - j)) c) (w.drew.setRow g cur1):=λa ha ty sc=>by
    rw[hcur1];exact run_append_room w.drew σ ty τ inf hu hinf g i c cur hgd a (n - j) sc cs (by rw[hk];exact hl) (λt v ht=>by
      rcases ha with ha|rfl
      . rw[ha]at hl;rw[List.length_eq_zero_iff.1 (by omega:cs.length=0)]at ht;cases ht
      rw[hcs1,Ϡ]at ht;split at ht
      . rw[Addr.add_lit];simp only[World.cell?,hgd];simpa using ht
      cases ht) hone O (by rw[hk,hl];omega)
  have hclr:∀(W:Ϛ),W.heap=(w.drew.setRow g cur1).heap->∀ty sc,(Builtin.clear_ #[σ] ty #[.slice (ϑ ⟨g,(i+(n - j))*K,ϓ⟩) (n - (i+(n - j))) sc]).run P W=.ok (.tuple #[]) (W.setRow g cur2):=λW hW ty sc=>by
    have hgW:W.heap[g]?=ϑ (.cells cur1 τ (0,0)):=by rw[hW];exact setRow_heap _ _ _ _ _ _ hgd
    have hst:=run_storeCells_at P g ((i+(n - j))*K) τ zs 0 cur1 W hgW (by rw[hzl,<- ϗ,hcl1];omega) hzo;simp only[ξ]at hst;rw[<- hcur2,hzs1]at hst;obtain⟨r,hr⟩:∃r,n - (i+(n - j))=r+1:=⟨j - i - 1,O⟩
    rw[hr]at hst⊢;simp[Builtin.clear_,run_underlying hu,zeroValue,typeInfo,hinf,hz,hst]
  exact⟨cur1,cur2,happ,hclr,hs2,by rw[<- hcs1];exact ht2⟩
def Z191(P:Program)(f:FuncId)(σ K:Nat):Prop:=∀(w:Ϛ) (g n c i j:Nat) (cur1 cur2:Array ϕ),i<j->j<=n->n<=c->c<=9223372036854775807 ->
  (∀(a:Addr),(n - j=0\/a=⟨g,j*K,ϓ⟩)->∀ty sc,(Builtin.append_ #[σ,σ] ty #[.slice (ϑ ⟨g,0,ϓ⟩) i c,.slice (ϑ a) (n - j) sc]).run P w.drew=.ok (.slice (ϑ ⟨g,0,ϓ⟩) (i+(n - j)) c) (w.drew.setRow g cur1)) ->
  (∀(W:Ϛ),W.heap=(w.drew.setRow g cur1).heap->∀ty sc,(Builtin.clear_ #[σ] ty #[.slice (ϑ ⟨g,(i+(n - j))*K,ϓ⟩) (n - (i+(n - j))) sc]).run P W=.ok (.tuple #[]) (W.setRow g cur2)) ->
  Ϫ P f #[.slice (ϑ ⟨g,0,ϓ⟩) n c,.int .i64 i,.int .i64 j] w λe w'=>e=.returned (.slice (ϑ ⟨g,0,ϓ⟩) (i+(n - j)) c)/\w'=w.drew.setRow g cur2
def Zu9{f:FuncId}{ks:List Kd}(hu:P.underlying σ=ϑ (.slice τ))(hI:(P.info? τ).bind (λi=>i.zero.map (λz=>(i.size,z.cells.size,z.cells.toList.all (λv=>v.oneCell'))))=ϑ (K,K,Ϙ))(hK:K=ks.length)(hK0:0<K)(h1:Z191 P f σ K)(w:Ϛ)(s:ϕ)(i j:Nat)(R:List (List ϕ))(hs:owns w s τ ks R)(hij:i<j)(hj:j<=R.length): Ϫ P f #[s,.int .i64 i,.int .i64 j] w λe w'=>∃v',e=.returned v'/\Zc8 w w' s v' τ ks (R.take i++R.drop j):=by
 subst hK;obtain⟨inf,hinf,hI⟩:=Option.bind_eq_some_iff.1 hI;obtain⟨z,hz,hI⟩:=ϯ.1 hI;have hk:=congrArg (·.1) hI;have hzs:=congrArg (·.2.1) hI;have hz1c:=congrArg (·.2.2) hI;obtain⟨hk1,hl1,ho⟩:=hs;have hrl1:∀r∈R,r.length=ks.length:=λr hr=>(hk1 r hr).length;rcases ho with⟨-,hn⟩|⟨g,c,cur,rfl,-,hg,hnc,hcm,hcs,htk⟩
 ·omega
 replace hcs:cur.size=c*ks.length:=hcs;replace htk:cur.toList.take (R.length*ks.length)=R.flatten:=htk;obtain⟨cur1,cur2,a1,a2,q1,q2⟩:=cutI hu hinf hk hz hzs hz1c hK0 w g R.length c i j cur hij hj hnc hcm hg hcs (λv hv=>by rw[htk]at hv;exact Zor hk1 v hv);refine(h1 w g R.length c i j cur1 cur2 hij hj hnc hcm a1 a2).mono ?_;rintro e w' ⟨rfl,rfl⟩;have hgd:=hg;have t1:cur.toList.take (i*ks.length)=(R.take i).flatten:=by rw[<- Z9r i hrl1,<- htk,Ϻ,χ (ϐ _ O)]
 have t2:(cur.toList.drop (j*ks.length)).take ((R.length - j)*ks.length)=(R.drop j).flatten:=by rw[<- Z9s j hrl1,<- htk,List.drop_take,ϩ]
 have hrows:∀r∈R.take i++R.drop j,rowOk ks r:=by
  intro r hr;rcases qy13.1 hr with hr|hr
  ·exact hk1 r (Δ hr)
  exact hk1 r (ϲ hr)
 have hlen:(R.take i++R.drop j).length=i+(R.length - j):=O3;refine⟨_,rfl,⟨hrows,Zk (λr hr=>(hrows r hr).length),.inr ⟨g,c,cur2,by rw[hlen],Θ _,setRow_heap _ _ _ _ _ _ hgd,O,hcm,q1.trans hcs,?_⟩⟩,λk hk=>.inl hk,rfl,rfl,rfl,by rw[setRow_size];exact Ϥ _,λk hk hkr=>setRow_other _ _ _ _ (λe=>hkr (by rw[e];rfl))⟩;rw[hlen];rw[q2,t1,t2,ϫ]
end Go.Sx
namespace Go.Proofs.Y
open Go Go.Sx Go.Shelf Go.RowKit Go.Lib
def Z1e5:Z191 ϒ 279 22 3:=by
 intro w g n c i j cur1 cur2 hij hj hnc hc63 happ hclr;have hz1:¬((i)=(j)):=O;have hb1:(0:Int)<=(i):=O;have hw1:¬(c=i+(n - j)):=O;have hj1:(j)<=(n):=O;have hj2:(i)<=(j):=O;have mixed:Tryz.prog.follows Departure.mixedOrders=Ϙ:=O2;have hic:i<=c:=O;by_cases hcj:c=j
 ·obtain rfl:n=c:=O;obtain rfl:n=j:=hcj;have happ0:∀(a:Addr) ty sc,(Builtin.append_ #[22,22] ty #[.slice (ϑ ⟨g,0,ϓ⟩) i n,.slice (ϑ a) 0 sc]).run ϒ w.drew=.ok (.slice (ϑ ⟨g,0,ϓ⟩) i n) (w.drew.setRow g cur1):=λa ty sc=>by have:=happ a (.inl (π n)) ty sc;rw[π,ξ]at this;exact this
  have hclr0:∀(W:Ϛ),W.heap=(w.drew.setRow g cur1).heap->∀ty sc,(Builtin.clear_ #[22] ty #[.slice (ϑ ⟨g,i*3,ϓ⟩) (n - i) sc]).run ϒ W=.ok (.tuple #[]) (W.setRow g cur2):=by rw[π,ξ]at hclr;exact hclr
  have hw2:¬n=i:=O;have hfin0:Ending.returned (.slice (ϑ ⟨g,0,ϓ⟩) i n)=.returned (.slice (ϑ ⟨g,0,ϓ⟩) (i+(n - n)) n):=by rw[π,ξ]
  go_enter Tryz.func279,Tryz.ntmps279
  go_wp2
  go_region_law_o (refine Z22 rfl _ _ 22 22 rfl _ _ O7 O7 (happ0 ⟨g,0,ϓ⟩ _ 0) ?_)
  go_wp2_with (refine Z1t _ rfl _ 22 rfl _ rfl (hclr0 _ rfl _ _) ?_)
  go_ret
  exact⟨hfin0,by rw[setRow_setRow]⟩
 go_enter Tryz.func279,Tryz.ntmps279
 go_wp2
 go_region_law_o (refine Z22 rfl _ _ 22 22 rfl _ _ O7 O7 (happ ⟨g,j*3,ϓ⟩ (.inr rfl) _ (c - j)) ?_)
 go_wp2_with (refine Z1t _ rfl _ 22 rfl _ rfl (hclr _ rfl _ _) ?_)
 go_ret
 exact⟨rfl,by rw[setRow_setRow]⟩
variable(w:Ϛ)
def Z136(s:ϕ)(i j:Nat)(R:List (List ϕ))(hs:owns w s 111 [.str,.str,.int .i64] R)(hij:i<j)(hj:j<=R.length): Ϫ ϒ 279 #[s,.int .i64 i,.int .i64 j] w λe w'=>∃v',e=.returned v'/\Zc8 w w' s v' 111 [.str,.str,.int .i64] (R.take i++R.drop j) :=
 Zu9 (K:=3) Tryz.underlying22 O2 rfl U Z1e5 w s i j R hs hij hj
end Go.Proofs.Y
namespace Go.Proofs.Y
open Go.Sx
variable(w:Ϛ)
def Zi1(v:ϕ)(l:List Kp)(hv:Z1r w v l)(hl:l.length<1000000000):Ϫ ϒ 58 #[sc1 v] w λe w'=>∃v',e=.returned (sc1 v')/\Zrg w' v' l/\(∀k,Z1 v' k->w.heap.size<=k)/\Mod [] w w':=by refine Wr (J:=[.v v,.r (l.map encK)]) Z46 ?_;simp only[QR,ra,ϳ];exact⟨λh w' hr=>(by have hn:=List.map_eq_nil_iff.1 (Z61 h hv);subst hn;exact⟨_,rfl,hr.at_ 0 rfl,hr.fresh 0 rfl,hr.mod⟩),λh v1=>⟨O,λv2 w' hr=>⟨v2,rfl,hr.at_ 0 rfl,hr.fresh 0 rfl,hr.mod⟩⟩⟩
def Z1hg(s v:ϕ)(l:List Kp)(x:Kp)(i:Nat)(hs:Zrg w s l)(hv:Zrg w v [x])(hne:∀k,Z1 s k->Z1 v k->False)(hi:i<=l.length)(hl:l.length<1000000): Ϫ ϒ 280 #[sc1 s,.int .i64 i,sc1 v] w λe w'=>∃v',e=.returned (sc1 v')/\Zrg w' v' (l.take i++[x]++l.drop i)/\(∀k,Z1 v' k->Z1 s k\/w.heap.size<=k)/\Mod s.ownBlock.toList w w':=by rw[hs.reads.sc1,hv.reads.sc1];refine(Z135 w s v i _ _ hs hv hne (by simpa using hi) O3).mono ?_;rintro e w' ⟨v',rfl,g1,g2,g3⟩;refine⟨v',by rw[g1.reads.sc1],?_,g2,Mod.of_grown g3 λk hk=>.inl (γ.2 hk)⟩;rw[Zrg,Ϣ,Ϣ,List.map_take,List.map_drop];exact g1
def Z1hh(s:ϕ)(l:List Kp)(i:Nat)(hs:Zrg w s l)(hi:i<l.length): Ϫ ϒ 279 #[sc1 s,.int .i64 i,.int .i64 ((i:Int)+1)] w λe w'=>∃v',e=.returned (sc1 v')/\Zrg w' v' (l.take i++l.drop (i+1))/\(∀k,Z1 v' k->Z1 s k\/w.heap.size<=k)/\Mod s.ownBlock.toList w w':=by rw[hs.reads.sc1];have hc:=Z136 w s i (i+1) _ hs O (by rw[qy3];omega);rw[show((i+1))=(i)+1 by omega]at hc;refine hc.mono ?_;rintro e w' ⟨v',rfl,g1,g2,g3⟩;refine⟨v',by rw[g1.reads.sc1],?_,g2,Mod.of_grown g3 λk hk=>.inl (γ.2 hk)⟩;rw[Zrg,Ϣ,List.map_take,List.map_drop];exact g1
def Z2z:Z1r w (.slice ϓ 0 0) []:=⟨O1,ϓ,0,rfl,⟨λ_=>rfl,Ϥ _⟩,ϟ rfl⟩
def gotK(w':Ϛ)(e:Ending)(r:List Kp)(er:Int):Prop:=∃v',e=.returned (.tuple #[sc1 v',.int .i64 er])/\Z1r w' v' r/\newV w.heap.size v'/\Mod [] w w'
def minV(v:Int):Int:=if 16777215<v+1 then 16777215 else v+1
def rawK(l:List Kp)(n p:By):List Kp×Int :=
 if 200<(p.length:Int)then([],2)
 else if hasK l n=Ϙ/\p=[]then(l.take (idx l n)++l.drop (idx l n+1),0)
 else if hasK l n=Ϙ then(l.set (idx l n) ((l.getD (idx l n) kD).1,p,minV (l.getD (idx l n) kD).2.2),0)
 else if p=[]then(l,0)
 else if(l.length:Int)=16 then([],2)else(l.take (idx l n)++[((n,p,1):Kp)]++l.drop (idx l n),0)
def Z192(l:List Kp)(n:By):idx l n<=l.length:=ϱ _ _
def Z1u(R:List Kp)(m:Nat)(x:Kp):(R.map encK).set m [.string ⟨x.1.toArray⟩,.string ⟨x.2.1.toArray⟩,.int .i64 x.2.2]=(R.set m x).map encK:=by rw[List.map_set];rfl
variable{m:Nat}
def Z137{R:List Kp}{x:Kp}(h:m<R.length):(R.set m x).getD m kD=x:=by rw[qy1,List.getElem?_set_self h];rfl
def Z1hi(v:ϕ)(l:List Kp)(n p:By)(hv:Z1r w v l)(hs:chkK l=0):Ϫ ϒ 242 #[sc1 v,.string ⟨n.toArray⟩,.string ⟨p.toArray⟩] w λe w'=>gotK w w' e (rawK l n p).1 (rawK l n p).2:=by
 obtain⟨k1,k2,k3⟩:=Z11.1 hs;refine Wr (J:=[.v v,.r (l.map encK),.s n,.s p]) Zo9 ?_;simp only[QR,ra,gK0,gK1,gK2];refine⟨λh w' hr=>?_,λh w1 hr=>?_⟩
 ·rw[rawK,ϝ h];exact⟨_,rfl,Z2z _,Z2r _,hr.mod⟩
 refine(Zi1 w1 v l (hr.at_ 1 rfl) O).mono ?_;rintro e w2 ⟨u,rfl,a1,f1,m1⟩;refine⟨[.v u,.r (l.map encK)],rfl,rfl,m1,qy5 _,qy2.2 ⟨⟨a1,λk hk=>.inl (f1 k hk)⟩,qy5 _⟩,Z2,?_⟩;clear hr a1 f1 m1;simp only[QR,ra,gK0,gK1,gK2];refine⟨[.i (idx l n),.b (hasK l n)],rfl,λ_ w' hr=>Z132 w' u l n (hr.at_ 0 rfl).reads k3 O,?_⟩;simp only[QR,ra,gK0,gK1,gK2];rw[rawK,ϛ h];refine⟨λh1=>?_,λh1=>?_⟩
 ·have hlt:=(of_decide_eq_true h1.1).1;rw[ϝ h1];refine⟨O,O,λw3 hr=>?_⟩;refine(Z1hh w3 u l (idx l n) (hr.at_ 0 rfl) hlt).mono ?_;rintro e w4 ⟨v',rfl,g1,g2,g3⟩;refine⟨[.v v',.r ((l.take (idx l n)++l.drop (idx l n+1)).map encK)],rfl,rfl,g3.mono λk hk=>.inl (by simpa[Zn,Zq,Value.ownBlock]using hk),qy5 _,qy2.2 ⟨⟨g1,λk hk=>?_⟩,qy5 _⟩,Z2,by intro w5 hr5;exact⟨v',rfl,(hr5.at_ 0 rfl).reads,hr5.fresh 0 rfl,hr5.mod⟩⟩
  ·rcases g2 k hk with h2|h2
   ·exact .inr (.inr (Z14 (i:=5) O1 h2))
   exact .inl h2
 rw[ϛ h1];refine⟨λh2=>?_,λh2=>?_⟩
 ·have hlt:=(of_decide_eq_true h2).1;have hm:l.getD (idx l n) kD∈l:=by
   rw[qy1,qy7 hlt];exact ζ hlt
  obtain⟨-,-,-,o4,o5⟩:=k2 _ hm;rw[ϝ h2];refine⟨O,O,O,O,by simp only[ψ,qy3];omega,λw3 hr=>?_⟩;have e1:(l.map encK).set (idx l n) [Value.string ⟨(l.getD (idx l n) kD).1.toArray⟩,Value.string ⟨p.toArray⟩,Value.int .i64 (l.getD (idx l n) kD).2.2]=(l.set (idx l n) ((l.getD (idx l n) kD).1,p,(l.getD (idx l n) kD).2.2)).map encK:=Z1u l (idx l n) ((l.getD (idx l n) kD).1,p,(l.getD (idx l n) kD).2.2);refine⟨u,rfl,?_,hr.fresh 0 rfl,hr.mod⟩;have h0:=(hr.at_ 0 rfl).reads;simp only[QR,ra,gK0,gK1,gK2,e1,Z137 hlt]at h0;have e2:((l.set (idx l n) ((l.getD (idx l n) kD).1,p,(l.getD (idx l n) kD).2.2)).map encK).set (idx l n) [Value.string ⟨(l.getD (idx l n) kD).1.toArray⟩,Value.string ⟨p.toArray⟩,Value.int .i64 (minV (l.getD (idx l n) kD).2.2)]=(l.set (idx l n) ((l.getD (idx l n) kD).1,p,minV (l.getD (idx l n) kD).2.2)).map encK:=by have:=Z1u (l.set (idx l n) ((l.getD (idx l n) kD).1,p,(l.getD (idx l n) kD).2.2)) (idx l n) ((l.getD (idx l n) kD).1,p,minV (l.getD (idx l n) kD).2.2);rw[List.set_set]at this;exact this
  rw[Z1r,<- e2];exact h0
 rw[ϛ h2];refine⟨λh3 w3 hr=>(by rw[ϝ h3];exact⟨u,rfl,(hr.at_ 0 rfl).reads,hr.fresh 0 rfl,hr.mod⟩),λh3=>⟨λh4 w3 hr=>(by rw[ϛ h3,ϝ h4];exact⟨_,rfl,Z2z _,Z2r _,hr.mod⟩),λh4 u2 w3 hr=>?_⟩⟩;rw[ϛ h3,ϛ h4];refine(Z1hg w3 u u2 l (n,p,1) (idx l n) (hr.at_ 1 rfl) (hr.at_ 0 rfl) (λk h5 h6=>hr.sep.disj (i:=1) (j:=0) rfl rfl O (.inl rfl) h5 h6) (Z192 l n) O).mono ?_;rintro e w4 ⟨v',rfl,g1,g2,g3⟩;refine⟨[.v v',.r ((l.take (idx l n)++[((n,p,1):Kp)]++l.drop (idx l n)).map encK)],rfl,rfl,g3.mono λk hk=>.inl (by unfold Zn;exact Ϧ _ (Z14 (i:=5) O1 (γ.1 hk))),qy5 _,qy2.2 ⟨⟨g1,λk hk=>?_⟩,qy5 _⟩,Z2,by intro w5 hr5;exact⟨v',rfl,(hr5.at_ 0 rfl).reads,hr5.fresh 0 rfl,hr5.mod⟩⟩;rcases g2 k hk with h5|h5
 ·exact .inr (.inr (Z14 (i:=5) O1 h5))
 exact .inl h5
def forF(f:By)(k:Kp):Bool:=mt (lev f) (lev k.1)
def Zi2(v:ϕ)(l:List Kp)(n:By)(hv:Z1r w v l)(hs:Z9q l)(hl:l.length<1000000000):Ϫ ϒ 24 #[sc1 v,.string ⟨n.toArray⟩] w λe w'=>e=.returned (.int .i64 (if hasK l n=Ϙ then(idx l n:Int)else -1))/\Mod [] w w':=by
 have key:∀i,i<l.length->(l.getD i kD).1=n->i=idx l n:=by
  intro i hi he;refine Zwq O (λj hj=>by rw[<- he];exact Zi0 hs hj hi) (λj hj1 hj2=>?_);rw[<- he];by_cases hji:j=i
  ·rw[hji];exact Zs _
  exact Z1h (Zi0 hs O hj2)
 refine Wr (J:=[.v v,.r (l.map encK),.s n]) Z9m ?_;simp only[QR,ra,gK0,gK1,gK2];refine⟨λvs=>∃(i:Nat) (x:V),vs=[x,.i i]/\i<=l.length/\∀j,j<i->¬(l.getD j kD).1=n,λvs=>l.length - (vs.getD 1 (.i 0)).toI.toNat,⟨0,_,rfl,O,λj hj=>O⟩,?_⟩;rintro _ - ⟨i,x,rfl,hi,hno⟩;simp only[QR,ra,gK0,gK1,gK2];refine⟨λh1=>⟨O,λh2 w' hr=>⟨?_,hr.mod⟩,λh2=>⟨O,O,⟨i+1,x,rfl,O,λj hj=>?_⟩,O⟩⟩,λh1 w' hr=>⟨?_,hr.mod⟩⟩
 ·have e:=key i O h2;have:hasK l n=Ϙ:=by rw[hasK,<- e];exact decide_eq_true ⟨O,h2⟩
  rw[ϝ this,<- e]
 ·by_cases hji:j=i
  ·rw[hji];exact h2
  exact hno j O
 have:¬hasK l n=Ϙ:=λh=>by obtain⟨h3,h4⟩:=of_decide_eq_true h;exact hno (idx l n) O h4
 rw[ϛ this]
def Zzq(u v:ϕ)(a b:List Kp)(hu:Z1r w u a)(hv:Z1r w v b)(hl:a.length<1000000000):Ϫ ϒ 97 #[sc1 u,sc1 v] w λe w'=>e=.returned (.bool (decide (a=b)))/\Mod [] w w':=by
 refine Wr (J:=[.v u,.r (a.map encK),.v v,.r (b.map encK)]) Z7y ?_;simp only[QR,ra];refine⟨λh w' hr=>⟨by rw[decide_eq_false];intro e;rw[e]at h;exact h rfl,hr.mod⟩,λh=>?_⟩;have hlen:a.length=b.length:=O;refine⟨λvs=>∃(i:Nat) (x:V),vs=[x,.i i]/\i<=a.length/\∀j,j<i->a.getD j kD=b.getD j kD,λvs=>a.length - (vs.getD 1 (.i 0)).toI.toNat,⟨0,_,rfl,O,λj hj=>O⟩,?_⟩;rintro _ - ⟨i,x,rfl,hi,hall⟩;simp only[QR,ra,gK0,gK1,gK2];refine⟨λh7=>⟨O,O,λh8 w' hr=>⟨(by rw[decide_eq_false];intro e;rw[e]at h8;exact h8 ⟨rfl,rfl,rfl⟩),hr.mod⟩,λh8=>⟨O,O,⟨i+1,x,rfl,O,λj hj=>?_⟩,O⟩⟩,λh7 w' hr=>⟨?_,hr.mod⟩⟩
 ·by_cases hji:j=i
  ·subst hji;have h9:=qy9.1 h8;exact Prod.ext h9.1 (Prod.ext h9.2.1 h9.2.2)
  exact hall j O
 rw[decide_eq_true];refine List.ext_getElem? λj=>?_;by_cases hj:j<a.length
 ·have:=hall j O;rw[qy1,qy1,qy7 hj,qy7 O]at this;rw[qy7 hj,qy7 O];simpa using this
 rw[ϧ O,ϧ O]
def Zfv(p:Kp->Bool)(l:List Kp)(i:Nat)(h:i<l.length):(l.take (i+1)).filter p=(l.take i).filter p++(if p (l.getD i kD)=Ϙ then[l.getD i kD]else[]):=by rw[Zri l i h,List.filter_append,ϣ,List.filter_nil]
variable{j:Nat}
def Zot{R l:List Kp}(h:R.drop j=l.drop j):R.getD j kD=l.getD j kD:=by have e:∀q:List Kp,q.getD j kD=(q.drop j).getD 0 kD:=λq=>O1;rw[e R,e l,h]
def Z138{R:List Kp}{x:Kp}(h:m<R.length):(R.set m x).take (m+1)=R.take m++[x]:=by rw[List.take_set,Zri R m h,List.set_append_right _ _ O3];have:m - (R.take m).length=0:=O3;rw[this];rfl
def Z139{R:List Kp}{x:Kp}(h:m<j):(R.set m x).drop j=R.drop j:=by rw[List.drop_set,ϝ h]
def gotL(w':Ϛ)(e:Ending)(r:List Kp):Prop:=∃v',e=.returned (sc1 v')/\Z1r w' v' r/\newV w.heap.size v'/\Mod [] w w'
def Z1hj(v:ϕ)(l:List Kp)(f:By)(hv:Z1r w v l)(hs:Zb5 l)(hl:l.length<1000000000)(hf:f.length<4294967281):Ϫ ϒ 257 #[sc1 v,.string ⟨f.toArray⟩] w λe w'=>gotL w w' e (l.filter (forF f)):=by
 refine Wr (J:=[.v v,.r (l.map encK),.s f]) Zo8 ?_;simp only[QR,ra,gK0,gK1,gK2];intro b1 w1 hr;refine(Zi1 w1 v l (hr.at_ 2 rfl) O).mono ?_;rintro e w2 ⟨u,rfl,a1,f1,m1⟩;refine⟨[.v u,.r (l.map encK)],rfl,rfl,m1,qy5 _,qy2.2 ⟨⟨a1,λk hk=>.inl (f1 k hk)⟩,qy5 _⟩,Z2,?_⟩;simp only[QR,ra,gK0,gK1,gK2];refine⟨λvs=>∃(i:Nat) (x:V),vs=[x,.i i,.s f]/\i<=l.length/\(l.take i).filter (forF f)=l.take i,λvs=>l.length - (vs.getD 1 (.i 0)).toI.toNat,⟨0,_,rfl,O,O1⟩,?_⟩;rintro _ - ⟨i,x,rfl,hi,hall⟩;simp only[QR,ra,gK0,gK1,gK2];refine⟨λh1=>⟨O,λb2=>?_⟩,λh1 w3 hr=>?_⟩
 ·refine⟨[.b (forF f (l.getD i kD))],rfl,λ_ w' _=>Z1dv w' f _ hf (Z8r hs i),?_⟩;simp only[QR,ra,gK0,gK1,gK2];have hsn:=Zfv (forF f) l i O;refine⟨λh2=>⟨λh3=>ϟ h3 O,λh3=>⟨O,O,?_⟩⟩,λh2=>⟨O,O,⟨i+1,x,rfl,O,by have h2:=qy9.1 h2;rw[hsn,hall,ϝ h2,Zri l i O]⟩,O⟩⟩
  ·rw[ϛ h2,Ϸ]at hsn;refine⟨λvs=>∃(m j:Nat) (R:List Kp),vs=[.i m,.i j,.r (R.map encK),.s f]/\R.length=l.length/\m<j/\j<=l.length/\R.take m=(l.take j).filter (forF f)/\R.drop j=l.drop j,λvs=>l.length - (vs.getD 1 (.i 0)).toI.toNat,⟨i,i+1,l,rfl,rfl,O,O,by rw[hsn,hall],rfl⟩,?_⟩;rintro _ - ⟨m,j,R,rfl,hRl,hmj,hj,htk,hdr⟩;simp only[QR,ra,gK0,gK1,gK2];refine⟨λh4=>⟨O,λb8 b9=>?_⟩,λh4=>?_⟩
   ·have hsn:=Zfv (forF f) l j O;have hRj:=Zot hdr;have hdr1:R.drop (j+1)=l.drop (j+1):=by rw[<- List.drop_drop,<- List.drop_drop,hdr]
    rw[hRj];refine⟨[.b (forF f (l.getD j kD))],rfl,λ_ w' _=>Z1dv w' f _ hf (Z8r hs j),?_⟩;simp only[QR,ra,gK0,gK1,gK2,hRj];refine⟨λh5=>?_,λh5=>by rw[ϛ h5,Ϸ]at hsn;exact⟨O,O,⟨m,j+1,R,rfl,hRl,O,O,by rw[htk,hsn],hdr1⟩,O⟩⟩;rw[ϝ h5]at hsn;exact⟨O,O,O,O,O,O,⟨m+1,j+1,R.set m (l.getD j kD),by rw[<- Z1u];rfl,by simpa using hRl,O,O,by rw[Z138 O,htk,hsn],by rw[Z139 O,hdr1]⟩,O⟩
   have:j=l.length:=O;subst this;rw[η]at htk;refine⟨O,O,by simp only[qy11,ϖ,qy3,List.length_replicate];omega,λv9 w5 hr=>?_⟩;have e1:(List.take m (List.take m (R.map encK)++List.replicate (R.length - m) [Value.string ⟨[].toArray⟩,.string ⟨[].toArray⟩,.int .i64 0]))=(l.filter (forF f)).map encK:=by rw[ϔ O3,Ϻ,Nat.min_self,<- List.map_take,htk]
   have h0:=(hr.at_ 0 rfl).reads;simp only[QR,ra,gK0,gK1,gK2]at h0;refine⟨v9,rfl,?_,hr.fresh 0 rfl,hr.mod⟩;rw[Z1r,<- e1];exact h0
 have:i=l.length:=O;subst this;rw[η]at hall;rw[hall];exact⟨u,rfl,(hr.at_ 1 rfl).reads,hr.fresh 1 rfl,hr.mod⟩
def Z193(v:ϕ)(l:List Kp)(f:By)(hv:Z1r w v l)(hs:Zb5 l)(hl:l.length<1000000000)(hf:f.length<4294967281):Ϫ ϒ 87 #[sc1 v,.string ⟨f.toArray⟩] w λe w'=>gotL w w' e (l.filter (forF f)):=by
 refine Wr (J:=[.v v,.r (l.map encK),.s f]) Z98 ?_;simp only[QR,ra,gK0,gK1,gK2,ϳ];refine⟨λvs=>∃(i:Nat) (x:ϕ),vs=[.v x,.r (((l.take i).filter (forF f)).map encK),.i i]/\i<=l.length,λvs=>l.length - (vs.getD 2 (.i 0)).toI.toNat,⟨0,_,rfl,O⟩,?_⟩;rintro _ - ⟨i,x,rfl,hi⟩;have hlen:((l.take i).filter (forF f)).length<=i:=Nat.le_trans (ϱ _ _) O3;simp only[QR,ra,gK0,gK1,gK2,ϳ];refine⟨λh1=>⟨O,?_⟩,λh1 w1 hr=>?_⟩
 ·refine⟨[.b (forF f (l.getD i kD))],rfl,λ_ w' _=>Z12q w' f _ hf (Z8r hs i),?_⟩;simp only[QR,ra,gK0,gK1,gK2];have hsn:=Zfv (forF f) l i O;exact⟨λh2 v1=>⟨O,λv2=>⟨O,O,⟨i+1,v2,by rw[hsn,ϝ h2];simp[encK],O⟩,O⟩⟩,λh2=>⟨O,O,⟨i+1,x,by rw[hsn,ϛ h2,Ϸ];rfl,O⟩,O⟩⟩
 have:i=l.length:=O;subst this;rw[η]at hr;exact⟨x,rfl,(hr.at_ 0 rfl).reads,hr.fresh 0 rfl,hr.mod⟩
abbrev Zcv(w:Ϛ)(v:ϕ)(l:List Kp):Prop:=owns w v 65 kK (l.map encK)
def memW(l:List Kp)(i:Nat)(h:i<l.length):l.getD i kD∈l:=by rw[qy1,qy7 h];exact ζ h
def smW(x:Kp):Prop:=x.1.length<1000000000/\x.2.1.length<1000000000
def Z2d(l:List Kp):Prop:=∀x∈l,smW x
def Z9t{l:List Kp}(h:Z2d l)(i:Nat):smW (l.getD i kD):=by
 by_cases hi:i<l.length
 ·exact h _ (memW l i hi)
 rw[qy1,ϧ O];exact⟨U,U⟩
abbrev Ky:=By×By
def ky(x:Kp):Ky:=(x.1,x.2.1)
def ltP(a b:Ky):Bool:=Z5 a.1 b.1 || (decide (a.1=b.1) && Z5 a.2 b.2)
def Zcw{a b:Ky}:ltP a b=Ϙ↔Z5 a.1 b.1=Ϙ\/a.1=b.1/\Z5 a.2 b.2=Ϙ:=by simp[ltP]
def Zfw(a:Ky):ltP a a=false:=by simp[ltP,Zs]
def Z6l{a b c:Ky}(h1:ltP a b=Ϙ)(h2:ltP b c=Ϙ):ltP a c=Ϙ:=by
 rw[Zcw]at *;rcases h1 with h1|⟨e1,h1⟩<;>rcases h2 with h2|⟨e2,h2⟩
 ·exact .inl (Zf h1 h2)
 ·exact .inl (by rw[<- e2];exact h1)
 ·exact .inl (by rw[e1];exact h2)
 exact .inr ⟨e1.trans e2,Zf h1 h2⟩
def Ze8{a b:Ky}(h:ltP a b=Ϙ):ltP b a=false:=by
 cases h2:ltP b a with
 | false=>rfl
 | true=>have:=Z6l h h2;rw[Zfw]at this;cases this
def Zmk{a b:Ky}(h:ltP a b=Ϙ):a≠b:=by rintro rfl;rw[Zfw]at h;cases h
def Z1e6{a b:Ky}(h1:ltP a b=false)(h2:ltP b a=false):a=b:=by have e:=Ze6 (by cases h:Z5 a.1 b.1 with|false=>rfl|true=>rw[Zcw.2 (.inl h)]at h1;cases h1) (by cases h:Z5 b.1 a.1 with|false=>rfl|true=>rw[Zcw.2 (.inl h)]at h2;cases h2);have f:=Ze6 (by cases h:Z5 a.2 b.2 with|false=>rfl|true=>rw[Zcw.2 (.inr ⟨e,h⟩)]at h1;cases h1) (by cases h:Z5 b.2 a.2 with|false=>rfl|true=>rw[Zcw.2 (.inr ⟨e.symm,h⟩)]at h2;cases h2);exact Prod.ext e f
def Zua{a b:Ky}:ltP a b=false↔(ltP b a=Ϙ\/b=a):=by
 constructor
 ·intro h;cases h2:ltP b a with
  | true=>exact .inl rfl
  | false=>exact .inr (Z1e6 h2 h)
 rintro(h|rfl)
 ·exact Ze8 h
 exact Zfw _
def cmpP(a b:Ky):Int:=if Z2x a.1 b.1=0 then Z2x a.2 b.2 else Z2x a.1 b.1
def Z13a{a b:Ky}:cmpP a b<0↔ltP a b=Ϙ:=by
 unfold cmpP;rw[Zcw];by_cases h:Z2x a.1 b.1=0
 ·rw[ϝ h,Z6k];have e:=Z3h.1 h;constructor
  ·exact λh2=>.inr ⟨e,h2⟩
  rintro(h2|h2)
  ·exact ϟ e (Z7k h2)
  exact h2.2
 rw[ϛ h,Z6k];constructor
 ·exact .inl
 rintro(h2|h2)
 ·exact h2
 exact ϟ (Z3h.2 h2.1) h
def Z13b{a b:Ky}:cmpP a b=0↔a=b:=by
 unfold cmpP;by_cases h:Z2x a.1 b.1=0
 ·rw[ϝ h,Z3h];exact⟨λh2=>Prod.ext (Z3h.1 h) h2,λh2=>by rw[h2]⟩
 rw[ϛ h];exact⟨λh2=>ϟ h2 h,λh2=>ϟ (Z3h.2 (by rw[h2])) h⟩
def Z13c{a b:Ky}:0<=cmpP a b↔ltP a b=false:=by
 have:=@Z13a a b;cases h:ltP a b with
 | true=>rw[h]at this;simp at this⊢;exact this
 | false=>rw[h]at this;simp at this⊢;exact this
def Z9u(l:List Kp):Prop:=l.Pairwise λa b=>ltP (ky a) (ky b)=Ϙ
variable{i:Nat}
def Zou{l:List Kp}(h:Z9u l)(hij:i<j)(hj:j<l.length):ltP (ky (l.getD i kD)) (ky (l.getD j kD))=Ϙ:=by rw[Z9u,List.pairwise_iff_getElem]at h;have:=h i j O hj hij;simpa[qy7 hj,qy7 (Nat.lt_trans hij hj)]using this
def idxW(l:List Kp)(n:Ky):Nat:=(l.filter λk=>ltP (ky k) n).length
def Z13d{l:List Kp}{n:Ky}(hi:i<=l.length)(h1:∀j,j<i->ltP (ky (l.getD j kD)) n=Ϙ)(h2:∀j,i<=j->j<l.length->ltP (ky (l.getD j kD)) n=false):i=idxW l n:=by
 have e:=(List.take_append_drop i l).symm;have f1:(l.take i).filter (λk=>ltP (ky k) n)=l.take i:=by
  rw[Ψ];intro x hx;obtain⟨j,hj,rfl⟩:=Ξ.1 hx;have hj':j<i:=by simp at hj;omega
  have:=h1 j hj';rw[List.getElem_take];simpa[qy7 (show j<l.length by omega)]using this
 have f2:(l.drop i).filter (λk=>ltP (ky k) n)=[]:=by
  rw[υ];intro x hx;obtain⟨j,hj,rfl⟩:=Ξ.1 hx;have hj':i+j<l.length:=by simp at hj;omega
  have:=h2 (i+j) O hj';rw[List.getElem_drop];simpa[qy7 hj']using this
 rw[idxW,e,List.filter_append,f1,f2];simp;omega
def Z13e(l:List Kp)(n:Ky):idxW l n<=l.length:=ϱ _ _
def hasW(l:List Kp)(n:Ky):Bool:=decide (idxW l n<l.length/\ky (l.getD (idxW l n) kD)=n)
def Z1jw(i j:Nat)(h:i+j<4000000000):Int.fdiv (IntKind.u64.wrap ((i:Int)+j)) (2 ^ (Nat.min (Int.toNat 1) IntKind.u64.bits))=(((i+j) / 2:Nat):Int):=by have e:(2:Int) ^ (Nat.min (Int.toNat 1) IntKind.u64.bits)=2:=U;rw[e,IntKind.wrap_u64,Int.emod_eq_of_lt O O,Int.fdiv_eq_ediv_of_nonneg _ U];omega
def loW(l:List Kp)(n:Ky):List Kp:=l.filter λk=>ltP (ky k) n
def miW(l:List Kp)(n:Ky):List Kp:=l.filter λk=>decide (ky k=n)
def hiW(l:List Kp)(n:Ky):List Kp:=l.filter λk=>ltP n (ky k)
def Z4a{p:Kp->Bool}{l:List Kp}(h:∀x∈l,p x=false):l.filter p=[]:=by rw[υ];intro x hx;rw[h x hx];decide
def Z6m{p:Kp->Bool}{l:List Kp}(h:∀x∈l,p x=Ϙ):l.filter p=l:=Ψ.2 h
def Zml:∀(l:List Kp) (n:Ky),Z9u l->l=loW l n++miW l n++hiW l n/\(miW l n).length<=1
 | [],_,_=>by simp[loW,miW,hiW]
 | k::r,n,h=>by
  obtain⟨h1,h2⟩:=ϻ.1 h;obtain⟨e,hm⟩:=Zml r n h2;cases hk:ltP (ky k) n with
  | true =>
   have a1:loW (k::r) n=k::loW r n:=by simp[loW,hk]
   have a2:miW (k::r) n=miW r n:=by simp[miW,Zmk hk]
   have a3:hiW (k::r) n=hiW r n:=by simp[hiW,Ze8 hk]
   rw[a1,a2,a3];exact⟨by rw[θ,θ,<- e],hm⟩
  | false =>
   have hgt:∀x∈r,ltP n (ky x)=Ϙ:=λx hx=>by
    rcases Zua.1 hk with h3|h3
    ·exact Z6l h3 (h1 x hx)
    rw[h3];exact h1 x hx
   have b1:=Z4a λx hx=>Ze8 (hgt x hx);have b2:miW r n=[]:=Z4a λx hx=>decide_eq_false (λe=>by have:=hgt x hx;rw[e,Zfw]at this;cases this);have b3:=Z6m hgt;have a1:loW (k::r) n=[]:=by rw[loW,ϣ,hk];exact b1
   rcases Zua.1 hk with h3|h3
   ·have a2:miW (k::r) n=[]:=by rw[miW,ϣ,decide_eq_false (Zmk h3).symm];exact b2
    have a3:hiW (k::r) n=k::r:=by rw[hiW,ϣ,h3,ϝ rfl];exact congrArg (Φ k) b3
    rw[a1,a2,a3];simp
   have a2:miW (k::r) n=[k]:=by rw[miW,ϣ,decide_eq_true h3.symm,ϝ rfl];exact congrArg (Φ k) b2
   have a3:hiW (k::r) n=r:=by
    have:ltP n (ky k)=false:=by rw[<- h3];exact Zfw _
    rw[hiW,ϣ,this];exact b3
   rw[a1,a2,a3];simp
def Z194{l:List Kp}{n:Ky}(h:Z9u l):l.take (idxW l n)=loW l n:=by
 have e:=(Zml l n h).1
 calc l.take (loW l n).length=(loW l n++miW l n++hiW l n).take (loW l n).length:=by rw[<- e]
  _=loW l n:=by rw[Ϩ,List.take_left]
def Zwr{l:List Kp}{n:Ky}(h:Z9u l):l.drop (idxW l n)=miW l n++hiW l n:=by
 have e:=(Zml l n h).1
 calc l.drop (loW l n).length=(loW l n++miW l n++hiW l n).drop (loW l n).length:=by rw[<- e]
  _=miW l n++hiW l n:=by rw[Ϩ,List.drop_left]
def Z1hk{l:List Kp}{n:Ky}(h:Z9u l):l.getD (idxW l n) kD=(miW l n++hiW l n).getD 0 kD:=by rw[<- Zwr h];simp
def Z13f{l:List Kp}{n:Ky}(h:Z9u l):l.length=idxW l n+(miW l n).length+(hiW l n).length:=by have e:=congrArg List.length (Zml l n h).1;rw[qy11,qy11]at e;exact e
def Zws{l:List Kp}{n:Ky}(h:Z9u l):(hasW l n=Ϙ/\∃k,miW l n=[k]/\ky k=n)\/(hasW l n=false/\miW l n=[]):=by
 have hl:=Z13f (n:=n) h;have ha:=Z1hk (n:=n) h;have hm:=(Zml l n h).2
 match he:miW l n,hm with
 | [],_ =>
  rw[he]at hl ha;refine .inr ⟨?_,rfl⟩;rw[hasW,decide_eq_false];rintro⟨h1,h2⟩;rw[ha]at h2
  match hb:hiW l n with
  | []=>rw[hb]at hl;simp at hl;omega
  | x::r =>
   rw[hb]at h2;have:x∈hiW l n:=by rw[hb];exact qy8 ..
   have h3:=(List.mem_filter.1 this).2;have h2:ky x=n:=h2;rw[h2,Zfw]at h3;cases h3
 | [k],_ =>
  have:k∈miW l n:=by rw[he];exact qy8 ..
  have hk:ky k=n:=by simpa using(List.mem_filter.1 this).2
  rw[he]at hl ha;refine .inl ⟨?_,k,rfl,hk⟩;rw[hasW,decide_eq_true];refine⟨by rw[hl];simp;omega,?_⟩;rw[ha];exact hk
abbrev Rd:=By×Int
def encY(k:Rd):List ϕ:=[.string ⟨k.1.toArray⟩,.int .i64 k.2]
abbrev yD:Rd:=([],0)
abbrev kY:List Kd:=[.str,.int .i64]
def gY0(l:List Rd)(i:Nat):Value.gS (((l.map encY).getD i []).getD 0 undef)=(l.getD i yD).1:=by simp only[qy1,ϰ];cases l[i]?<;>simp[encY,Value.gS,undef]
def gY1(l:List Rd)(i:Nat):Value.gI (((l.map encY).getD i []).getD 1 undef)=(l.getD i yD).2:=by simp only[qy1,ϰ];cases l[i]?<;>rfl
abbrev Z195(w:Ϛ)(v:ϕ)(l:List Rd):Prop:=owns w v 193 kY (l.map encY)
def Z1jx(l:List Rd)(i:Nat)(h:i<l.length):l.take (i+1)=l.take i++[l.getD i yD]:=by rw[List.take_add_one,qy1,qy7 h];rfl
def memY(l:List Rd)(i:Nat)(h:i<l.length):l.getD i yD∈l:=by rw[qy1,qy7 h];exact ζ h
variable(n:By)
def forW(w:Kp):Bool:=mt (lev w.2.1) (lev n)
def bst(n c:By):Option Int->List Kp->Option Int
 | o,[]=>o
 | o,w::r=>bst n c (if forW n w=Ϙ/\w.1=c then ϑ (max (o.getD 0) w.2.2)else o) r
def Zmm(n c:By):∀(a b:List Kp) (o:Option Int),bst n c o (a++b)=bst n c (bst n c o a) b
 | [],_,_=>rfl
 | _::a,b,_=>Zmm n c a b _
def Ze9(c:By)(a:List Kp)(w:Kp)(o:Option Int):bst n c o (a++[w])=if forW n w=Ϙ/\w.1=c then ϑ (max ((bst n c o a).getD 0) w.2.2)else bst n c o a:=by rw[Zmm];rfl
def Zwt{n c:By}:∀{l:List Kp},(∀w∈l,w.1≠c)->bst n c ϓ l=ϓ
 | [],_=>rfl
 | w::r,h=>by rw[bst,ϛ (λh2=>h w (qy8 ..) h2.2)];exact Zwt λx hx=>h x (qy10 _ hx)
def Z13g{n c:By}:∀{l:List Kp} {o:Option Int} {q:Int},(∀w∈l,0<=w.2.2)->bst n c o l=ϑ q->o=ϑ q\/∃w∈l,forW n w=Ϙ/\w.1=c/\w.2.2=q
 | [],o,q,_,h=>.inl h
 | w::r,o,q,hn,h=>by
  rw[bst]at h;have hn':∀x∈r,0<=x.2.2:=λx hx=>hn x (qy10 _ hx);by_cases h1:forW n w=Ϙ/\w.1=c
  ·rw[ϝ h1]at h;rcases Z13g hn' h with h2|⟨x,hx,h2⟩
   ·have h3:=Option.some.inj h2;have h0:=hn w (qy8 ..);cases o with
    | none =>
     simp only[μ]at h3;exact .inr ⟨w,qy8 ..,h1.1,h1.2,O⟩
    | some y =>
     simp only[Option.getD_some]at h3;by_cases h4:w.2.2<=y
     ·exact .inl (by congr 1;omega)
     exact .inr ⟨w,qy8 ..,h1.1,h1.2,O⟩
   exact .inr ⟨x,qy10 _ hx,h2⟩
  rw[ϛ h1]at h;rcases Z13g hn' h with h2|⟨x,hx,h2⟩
  ·exact .inl h2
  exact .inr ⟨x,qy10 _ hx,h2⟩
def Z13h(l:List Rd):Prop:=l.Pairwise λa b=>Z5 a.1 b.1=Ϙ
def Zmn:∀{a b:List Rd},Z13h a->Z13h b->(∀x,x∈a↔x∈b)->a=b
 | [],[],_,_,_=>rfl
 | [],y::b,_,_,h=>ϟ ((h y).2 (qy8 ..)) O1
 | x::a,[],_,_,h=>ϟ ((h x).1 (qy8 ..)) O1
 | x::a,y::b,ha,hb,h=>by
  obtain⟨a1,a2⟩:=ϻ.1 ha;obtain⟨b1,b2⟩:=ϻ.1 hb;have e:x=y:=by
   rcases δ.1 ((h x).1 (qy8 ..))with e|h1
   ·exact e
   rcases δ.1 ((h y).2 (qy8 ..))with e|h2
   ·exact e.symm
   have:=Z1h (b1 x h1);rw[a1 y h2]at this;cases this
  subst e;congr 1;refine Zmn a2 b2 λz=>⟨λhz=>?_,λhz=>?_⟩
  ·rcases δ.1 ((h z).1 (qy10 _ hz))with e|h1
   ·have:=a1 z hz;rw[e,Zs]at this;cases this
   exact h1
  rcases δ.1 ((h z).2 (qy10 _ hz))with e|h1
  ·have:=b1 z hz;rw[e,Zs]at this;cases this
  exact h1
def addY(out:List Rd)(w:Kp):List Rd :=
 match out.getLast? with
 | none=>[(w.1,max 0 w.2.2)]
 | some x=>if x.1=w.1 then out.dropLast++[(x.1,max x.2 w.2.2)]else out++[(w.1,max 0 w.2.2)]
def Zov(w:Kp):addY [] w=[(w.1,max 0 w.2.2)]:=rfl
def Zea(o:List Rd)(x:Rd)(w:Kp):addY (o++[x]) w=if x.1=w.1 then o++[(x.1,max x.2 w.2.2)]else o++[x]++[(w.1,max 0 w.2.2)]:=by simp[addY]
def rdF(out:List Rd)(l:List Kp):List Rd:=l.foldl (λout w=>if forW n w=Ϙ then addY out w else out) out
def rdOf(l:List Kp):List Rd:=rdF n [] l
def okY(out:List Rd)(l:List Kp):Prop:=Z13h out/\∀c q,(c,q)∈out↔bst n c ϓ l=ϑ q
def Z1e7{n c:By}{l:List Kp}{q:Int}(h:bst n c ϓ l=ϑ q):∃w∈l,w.1=c:=by refine Classical.byContradiction λhn=>?_;rw[Zwt λw hw e=>hn ⟨w,hw,e⟩]at h;cases h
def Z196{n:By}{out:List Rd}{l:List Kp}(h:okY n out l){w:Kp}(hf:¬forW n w=Ϙ):okY n out (l++[w]) :=
 ⟨h.1,λc q=>by rw[Ze9,ϛ (λh2=>hf h2.1)];exact h.2 c q⟩
def Z197{n:By}{out:List Rd}{l:List Kp}(h:okY n out l){w:Kp}(hs:∀x∈l,x.1=w.1\/Z5 x.1 w.1=Ϙ)(hf:forW n w=Ϙ):okY n (addY out w) (l++[w]):=by
 obtain⟨h1,h2⟩:=h;have hle:∀x∈out,x.1=w.1\/Z5 x.1 w.1=Ϙ:=λx hx=>by obtain⟨y,hy,e⟩:=Z1e7 ((h2 x.1 x.2).1 hx);rw[<- e];exact hs y hy
 have hb:∀c q,bst n c ϓ (l++[w])=ϑ q↔(c=w.1/\q=max ((bst n w.1 ϓ l).getD 0) w.2.2)\/(c≠w.1/\(c,q)∈out):=by
  intro c q;rw[Ze9];by_cases hc:w.1=c
  ·subst hc;rw[ϝ ⟨hf,rfl⟩];constructor
   ·intro e;exact .inl ⟨rfl,(Option.some.inj e).symm⟩
   rintro(⟨-,e⟩|⟨e,-⟩)
   ·rw[e]
   exact ϟ rfl e
  rw[ϛ (λh3=>hc h3.2),<- h2 c q];constructor
  ·exact λe=>.inr ⟨λe2=>hc e2.symm,e⟩
  rintro(⟨e,-⟩|⟨-,e⟩)
  ·exact ϟ e.symm hc
  exact e
 have hno:(∀x∈out,x.1≠w.1)->bst n w.1 ϓ l=ϓ:=λh3=>by
  cases h4:bst n w.1 ϓ l with
  | none=>rfl
  | some q=>exact ϟ rfl (h3 _ ((h2 _ q).2 h4))
 rcases ω out with rfl|⟨o,x,rfl⟩
 ·rw[Zov];refine⟨Ϯ _ _,λc q=>?_⟩;rw[hb,hno O1];simp only[qy12,μ,List.not_mem_nil,and_false,or_false,Prod.mk.injEq]
 rw[Γ]at h1 h2 hle hb hno⊢;rw[Zea];have ho:∀y∈o,Z5 y.1 x.1=Ϙ:=λy hy=>(ϙ.1 h1).2.2 y hy x (qy12.2 rfl);have hol:=(ϙ.1 h1).1;by_cases hx:x.1=w.1
 ·rw[ϝ hx];have hv:bst n w.1 ϓ l=ϑ x.2:=by rw[<- hx];exact(h2 x.1 x.2).1 (Ϧ _ (qy12.2 rfl))
  refine⟨ϙ.2 ⟨hol,Ϯ _ _,λy hy z hz=>by rw[qy12.1 hz];exact ho y hy⟩,λc q=>?_⟩;rw[hb,hv];simp only[Option.getD_some,qy13,qy12,Prod.mk.injEq,hx];constructor
  ·rintro(h3|h3)
   ·refine .inr ⟨λe=>?_,.inl h3⟩;have:=ho _ h3;rw[e,<- hx,Zs]at this;cases this
   exact .inl h3
  rintro(h3|⟨h3,h4|h4⟩)
  ·exact .inr h3
  ·exact .inl h4
  exact ϟ (by have:=congrArg Prod.fst h4;simp only at this;rw[this,hx]) h3
 rw[ϛ hx];have hlt:=(hle x (Ϧ _ (qy12.2 rfl))).resolve_left hx;have hall:∀y∈o++[x],Z5 y.1 w.1=Ϙ:=λy hy=>by
  rcases qy13.1 hy with hy|hy
  ·exact Zf (ho y hy) hlt
  rw[qy12.1 hy];exact hlt
 refine⟨ϙ.2 ⟨h1,Ϯ _ _,λy hy z hz=>by rw[qy12.1 hz];exact hall y hy⟩,λc q=>?_⟩;rw[hb,hno λy hy=>Z7k (hall y hy)];rw[qy13,qy12,Prod.mk.injEq,μ];constructor
 ·rintro(h3|h3)
  ·exact .inr ⟨Z7k (hall _ h3),h3⟩
  exact .inl h3
 rintro(h3|h3)
 ·exact .inr h3
 exact .inl h3.2
def Z198(l:List Kp):Prop:=l.Pairwise λa b=>a.1=b.1\/Z5 a.1 b.1=Ϙ
def Zmo{l:List Kp}(h:Z9u l):Z198 l:=h.imp λ{a b} h2=>by
 rcases Zcw.1 h2 with h3|h3
 ·exact .inr h3
 exact .inl h3.1
def Z1by{n:By}:∀(l d:List Kp) (out:List Rd),Z198 (d++l)->okY n out d->okY n (rdF n out l) (d++l)
 | [],d,out,_,h=>by rw[Ϸ];exact h
 | w::r,d,out,hr,h=>by
  have e:d++w::r=d++[w]++r:=O1;rw[e]at hr⊢;rw[rdF,List.foldl_cons];refine Z1by r (d++[w]) _ hr ?_;have hd:∀x∈d,x.1=w.1\/Z5 x.1 w.1=Ϙ:=λx hx=>(ϙ.1 (ϙ.1 hr).1).2.2 x hx w (qy12.2 rfl);by_cases hf:forW n w=Ϙ
  ·rw[ϝ hf];exact Z197 h hd hf
  rw[ϛ hf];exact Z196 h hf
def Z13i{n:By}{l:List Kp}(h:Z198 l):okY n (rdOf n l) l:=by have:=Z1by (n:=n) l [] [] (by simpa using h) ⟨List.Pairwise.nil,λc q=>by simp[bst]⟩;simpa[rdOf]using this
def Zow(n:By):∀(l:List Kp) (out:List Rd),(rdF n out l).length<=out.length+l.length
 | [],out=>Ϥ _
 | w::r,out=>by
  have:=Zow n r (if forW n w=Ϙ then addY out w else out);rw[rdF,List.foldl_cons];refine Nat.le_trans this ?_;have:(if forW n w=Ϙ then addY out w else out).length<=out.length+1:=by
   split
   ·rcases ω out with rfl|⟨o,x,rfl⟩
    ·simp[Zov]
    rw[Γ,Zea];split<;>simp
   omega
  simp only[List.length_cons];omega
open Go Go.Shelf Go.RowKit Go.Lib
def Z13j:Zft ϒ 296:=by
 intro w b n c i vb vc hi hc hb;go_enter Tryz.func296,Tryz.ntmps296;go_wp2
 all_goals (go_ret;exact⟨rfl,rfl⟩)
def Z199:Zmj ϒ 296 23:=by
 intro w b n c vb m vc hm hc hb v' w' hrun;have hz1:¬((m)=0):=O;go_enter Tryz.func296,Tryz.ntmps296
 go_wp2_with (at_builtin;refine Lib.wpList_append_run _ rfl _ _ _ _ rfl _ _ rfl rfl _ _ (hrun _) ?_)
 all_goals (go_ret;exact⟨rfl,rfl⟩)
def Zzr:Zbm ϒ 296 323 23 3:=by
 intro w g n c i vb m vc cur1 cur2 hi hm hroom hc63 hov hcp1 hcp2;obtain⟨hz1,hz2,hw1,hw2,hb1,hin,htn,htn2,hb3,-⟩:=insN hi hm O;have hb2:¬(c=i+m):=O;have hb4:¬(c=i):=O;have mixed:Tryz.prog.follows Departure.mixedOrders=Ϙ:=O2;go_enter Tryz.func296,Tryz.ntmps296
 go_wp2_with (simp only)
 go_region_law_o (refine step_copy_runI rfl _ _ 23 23 rfl _ _ O1 O1 (hcp1 _ _ _) ?_)
 go_wp2_with (at_builtin;refine wpList_copy_runI _ rfl _ _ 23 23 rfl _ _ rfl rfl (hcp2 _ rfl _ _) ?_)
 go_ret
 first|exact⟨rfl,rfl⟩|exact⟨rfl,by rw[setRow_setRow]⟩
def Z13k:Zfu ϒ 296 65 23 3 3:=by
  intro w g n c i vb m vc G ROW cur2 cur3 hi hm hnc hroom hGn hG63 hrz hcpA hcpB Q hfin;obtain⟨hz1,hz2,hw1,-,hb1,hin,htn,-,-,hb3⟩:=insN hi hm O;have hz3:(c)<(n)+(m):=O;have hGi:¬(G=i):=O;have hGim:¬(G=i+m):=O;have hci:¬(c=i):=O;have mixed:Tryz.prog.follows Departure.mixedOrders=Ϙ:=O2;have hE1:((w.alloc (.cells ROW 65)).drew).heap=(w.drew.alloc (.cells ROW 65)).heap:=rfl;have hF1:(((w.alloc (.cells ROW 65)).drew.setRow w.heap.size cur2).drew).heap=((w.drew.alloc (.cells ROW 65)).setRow w.heap.size cur2).heap:=rfl;go_enter Tryz.func296,Tryz.ntmps296;go_wp2_with (first
    | (at_builtin;refine Lib.wpList_append_run _ rfl _ _ _ _ rfl _ _ rfl rfl _ _ (hrz _) ?_)
    | (at_builtin;refine wpList_copy_runI _ rfl _ _ 23 23 rfl _ _ rfl rfl (hcpA _ hE1 _ _) ?_)
    | (at_builtin;refine wpList_copy_runI _ rfl _ _ 23 23 rfl _ _ rfl rfl (hcpB _ hF1 _ _ _) ?_))
  go_region_law_o (refine step_copy_runI rfl _ _ 23 23 rfl (.slice (ϑ ⟨w.heap.size,(i+m)*3,ϓ⟩) (n+m - (i+m)) (G - (i+m))) (.slice (ϑ ⟨g,i*3,ϓ⟩) (n - i) (c - i)) O7 O7 (hcpB _ hF1 3 (G - (i+m)) (c - i)) ?_)
  go_wp2
  exact hfin _ rfl rfl rfl rfl
def Z13l(s v:ϕ)(i:Nat)(R V:List (List ϕ))(hs:owns w s 65 [.str,.str,.int .i64] R)(hv:owns w v 65 [.str,.str,.int .i64] V)(hne:∀k,Z1 s k->Z1 v k->False)(hi:i<=R.length)(hb:(R.length+V.length)*40<=140737488355328): Ϫ ϒ 296 #[s,.int .i64 i,v] w λe w'=>∃v',e=.returned v'/\Zc8 w w' s v' 65 [.str,.str,.int .i64] (R.take i++V++R.drop i) :=
 Zjo (K:=3) Tryz.underlying23 Tryz.underlying3 O2 rfl U U (λargs w=>run_callFunc_extern Tryz.func323 O2 O2 O2 (e:=Extern.SlicesOverlaps.overlaps #[23,23] #[4]) O2 args w) Z13j Z199 Zzr Z13k w s v i R V hs hv hne hi hb
def pw:Nat->Nat
 | 0=>1
 | k+1=>256*pw k
def Zb6{a b:Nat}(h:a<=b):pw a<=pw b:=by
 induction h with
 | refl=>exact Ϥ _
 | step _ ih=>simp only[pw];omega
def Z1e8(n:Nat)(hn:n<=7):Ϫ ϒ 224 #[.int .i64 n] w λe w'=>e=.returned (.int .i64 (pw n))/\Mod [] w w':=by refine Wp (J:=[.i n]) Zap ?_;simp only[QR];refine⟨λvs=>∃k:Nat,vs=[.i (pw k),.i k]/\k<=n,λvs=>(n - (vs.getD 1 (.i 0)).toI).toNat,⟨0,rfl,O⟩,?_⟩;rintro _ - ⟨k,rfl,hk⟩;simp only[QR,ra];refine⟨λh=>(by have h6:pw k<=pw 6:=Zb6 O;have h6:pw k<=281474976710656:=h6;refine⟨O,O,O,O,⟨k+1,?_,O⟩,O⟩;simp[pw]),λh=>?_⟩;intro w' hr;have:k=n:=O;subst this;exact⟨rfl,hr.mod⟩
def numB(k:Nat)(n:Int):By:=(ϭ k).map λj=>UInt8.ofNat (n / pw (k - 1 - j) % 256).toNat
def Z1bz(k:Nat):1<=pw k:=Zb6 (Θ k)
def Z1b(n:Int)(k:Nat)(hk:k<=8)(h0:0<=n)(h1:n<=9223372036854775807): Ϫ ϒ 183 #[.int .i64 n,.int .i64 k] w λe w'=>e=.returned (.string ⟨(numB k n).toArray⟩)/\Mod [] w w':=by
 refine Wp (J:=[.i n,.i k]) Z7v ?_;simp only[QR];refine⟨O,O,λvs=>∃m:Nat,vs=[.s ((ϭ m).map λj=>UInt8.ofNat (n / pw (k - 1 - j) % 256).toNat),.i (k - 1 - m)]/\m<=k,λvs=>((vs.getD 1 (.i 0)).toI+1).toNat,⟨0,O1,O⟩,?_⟩;rintro _ - ⟨m,rfl,hm⟩;simp only[QR,ra];refine⟨λh=>?_,λh=>?_⟩
 ·obtain⟨i,hi⟩:∃i:Nat,(k:Int) - 1 - m=i:=⟨k - 1 - m,O⟩
  rw[hi];have hp:=Z1bz i;have hq:0<=n / (pw i:Int):=Int.ediv_nonneg h0 O;refine⟨[.i (pw i)],rfl,λ_ w' _=>Z1e8 w' i O,?_⟩;simp only[QR,ra];refine⟨h0,h1,O,hq,λv=>⟨O3,O,O,⟨m+1,?_,O⟩,O⟩⟩;have e1:k - 1 - m=i:=O;simp only[List.range_succ,Ϣ,ε,φ,Φ.injEq,V.s.injEq,V.i.injEq,and_true,e1];exact⟨rfl,O⟩
 intro w' hr;have:m=k:=O;subst this;exact⟨rfl,hr.mod⟩
def Zub(n:Int)(s:Nat)(hs:s<64):n.fdiv (2 ^ (Nat.min s IntKind.i64.bits))=n / (2 ^ s:Nat):=by have:Nat.min s IntKind.i64.bits=s:=χ (by show s<=64;omega);rw[this,Int.fdiv_eq_ediv_of_nonneg _ (by exact Int.pow_nonneg O)];simp
def Zb7(n:Int):IntKind.u8.wrap n=n % 256:=IntKind.wrap_u8 n
def Z1hl(N m:Nat):((N:Int) / (pw m:Int)) / 256=(N:Int) / (pw (m+1):Int):=by
 have h:(N / pw m) / 256=N / pw (m+1):=by rw[Nat.div_div_eq_div_mul,Nat.mul_comm];rfl
 rw[<- Int.natCast_ediv,<- Int.natCast_ediv,<- h];rfl
def Zox(n:Int)(k:Nat)(hk:k<=8)(h0:0<=n)(h1:n<=9223372036854775807): Ϫ ϒ 149 #[.int .i64 n,.int .i64 k] w λe w'=>e=.returned (.string ⟨(numB k n).toArray⟩)/\Mod [] w w':=by
 refine Wp (J:=[.i n,.i k]) Zj3 ?_;simp only[QR,ra];refine⟨λvs=>∃(m:Nat) (v:ϕ),vs=[.i (n / pw m),.v v,.r ((ϭ m).map λj=>[.int .u8 (n / pw j % 256)]),.i m]/\m<=k,λvs=>(k - (vs.getD 3 (.i 0)).toI).toNat,⟨0,.slice ϓ 0 0,by simp[pw],O⟩,?_⟩;rintro _ - ⟨m,v,rfl,hm⟩;simp only[QQ,Nat.reduceAdd];refine⟨λh=>?_,λh=>?_⟩
 ·intro v1;refine⟨O3,λv2=>⟨O,O,⟨m+1,v2,?_,O⟩,O⟩⟩;have e1:(n / pw m) / 256=n / pw (m+1):=by
   obtain⟨N,rfl⟩:=Int.eq_ofNat_of_zero_le h0;exact Z1hl N m
  have e2:Int.toNat 8=8:=rfl;simp only[List.range_succ,Ϣ,ε,φ,Φ.injEq,V.i.injEq,V.v.injEq,V.r.injEq,and_true,Zb7,e2,Zub _ 8 O,Nat.reducePow,true_and];exact⟨e1,O⟩
 have hmk:m=k:=O;subst hmk;have hl:((ϭ m).map λj=>[Value.int .u8 (n / pw j % 256)]).length=m:=O1;refine⟨O,O,λvs=>∃(i:Nat) (h:Nat->Int),vs=[.i i,.i ((m) - 1 - i),.r ((ϭ m).map λx=>[.int .u8 (h x)])]/\2*i<=m+1/\∀x,x<m->h x=if x<i\/m - 1<x+i then n / pw (m - 1 - x) % 256 else n / pw x % 256,
  λvs=>((vs.getD 1 (.i 0)).toI+1 - (vs.getD 0 (.i 0)).toI).toNat,⟨0,λx=>n / pw x % 256,O1,O,λx hx=>by rw[ϛ O]⟩,?_⟩
 rintro _ - ⟨i,h,rfl,hi,hh⟩;simp only[QR,ra];refine⟨λhc=>?_,λhc=>?_⟩
 ·obtain⟨j,hj⟩:∃j:Nat,(m:Int) - 1 - i=j:=⟨m - 1 - i,O⟩
  rw[hj]at hc⊢;have hjm:j<m:=O;have him:i<m:=O;have hget:∀x:Nat,x<m->((ϭ m).map λx=>[Value.int .u8 (h x)]).getD x []=[Value.int .u8 (h x)]:=λx hx=>by simp[qy1,ϰ,Ω hx]
  have q1:((j))<(m:Int):=O;have q2:((i):Int)<(m:Int):=O;have q3:(0:Int)<=(i:Int):=O;have q4:(0:Int)<=(j:Int):=O;have q5:(-9223372036854775808:Int)<=(i:Int)+1:=O;have q6:(i:Int)+1<=9223372036854775807:=O;have q7:(-9223372036854775808:Int)<=(j:Int) - 1:=O;have q8:(j:Int) - 1<=9223372036854775807:=O;simp only[ψ,qy3,List.length_range,qy4,q1,q2,q3,q4,q5,q6,q7,q8,true_and,and_self,hget i him,hget j hjm,Ϭ,Value.gI];have hset:(((ϭ m).map λx=>[Value.int .u8 (h x)]).set i [Value.int .u8 (h j)]).set j [Value.int .u8 (h i)]=(ϭ m).map λx=>[Value.int .u8 (if x=j then h i else if x=i then h j else h x)]:=by
   apply List.ext_getElem?;intro x;simp only[List.getElem?_set,ϰ,ψ,qy3,List.length_range];by_cases hx:x<m
   ·rw[Ω hx];by_cases h1:j=x
    ·subst h1;simp[hx]
    by_cases h2:i=x
    ·subst h2;simp[hx,h1,Ne.symm h1]
    simp[h1,h2,Ne.symm h1,Ne.symm h2]
   rw[ϧ O3];have h1:¬j=x:=O;have h2:¬i=x:=O;simp[h1,h2]
  refine⟨⟨i+1,λx=>if x=j then h i else if x=i then h j else h x,by rw[hset];simp only[Φ.injEq,V.i.injEq,and_true,true_and];omega,O,?_⟩,O⟩;intro x hx;have a1:=hh i him;have a2:=hh j hjm;rw[ϛ O]at a1 a2
  show(if x=j then h i else if x=i then h j else h x)=_
  by_cases h1:x=j
  ·subst h1;rw[ϝ rfl,ϝ O,a1];congr 3;congr 2;omega
  rw[ϛ h1];by_cases h2:x=i
  ·subst h2;rw[ϝ rfl,ϝ O,a2];congr 3;congr 2;omega
  rw[ϛ h2,hh x hx];by_cases h3:x<i\/m - 1<x+i
  ·rw[ϝ h3,ϝ O]
  rw[ϛ h3,ϛ O]
 intro w' hr;refine⟨?_,hr.mod⟩;congr 3;simp only[numB,List.map_map];refine congrArg List.toArray (List.map_congr_left λx hx=>?_);have hx:x<m:=by simpa using hx
 simp only[Function.comp,Ϭ,Value.gI,hh x hx];by_cases h3:x<i\/m - 1<x+i
 ·rw[ϝ h3]
 rw[ϛ h3];have:m - 1 - x=x:=O;rw[this]
variable(x:Nat)
def Z4z(h:x<2 ^ 63):(BitVec.ofInt 64 (x:Int)).toNat=x:=O3
def Zeb(h:x<2 ^ 63):IntKind.i64.wrap (x:Int)=x:=by rw[IntKind.wrap_i64];omega
def Z1hm(h:x<2 ^ 63):Z2l .and .i64 (x:Int) 127=(x % 128:Nat):=by
 have h127:(127:Int)=((127:Nat)):=rfl;simp only[h127]
 show IntKind.i64.wrap (((BitVec.ofInt 64 (x:Int)) &&& (BitVec.ofInt 64 ((127:Nat):Int))).toNat:Int)=_
 rw[BitVec.toNat_and,Z4z x h,Z4z 127 O];have e:=Nat.and_two_pow_sub_one_eq_mod x 7;rw[e,Zeb _ O]
def Z1jy(h:x<128):Z2l .or .i64 (x:Int) 128=(x+128:Nat):=by
 have h128:(128:Int)=((128:Nat)):=rfl;simp only[h128]
 show IntKind.i64.wrap (((BitVec.ofInt 64 (x:Int)) ||| (BitVec.ofInt 64 ((128:Nat):Int))).toNat:Int)=_
 rw[BitVec.toNat_or,Z4z x O,Z4z 128 O];have e:x ||| 128=x+128:=by have:=Nat.two_pow_add_eq_or_of_lt (i:=7) O 1;rw[Nat.or_comm];rw[show(128:Nat)=2 ^ 7 from rfl,<- this];omega
 rw[e,Zeb _ O]
def pL:Nat->Nat
 | 0=>128
 | f+1=>128*pL f
def lngB:Nat->Nat->By
 | 0,n=>[UInt8.ofNat n]
 | f+1,n=>if n<128 then[UInt8.ofNat n]else UInt8.ofNat (n % 128+128)::lngB f (n / 128)
def Zfx(f n:Nat)(h:n<128):lngB f n=[UInt8.ofNat n]:=by cases f<;>simp[lngB,h]
def Zi3:∀f n,(lngB f n).length<=f+1
 | 0,n=>by simp[lngB]
 | f+1,n=>by have:=Zi3 f (n / 128);simp only[lngB];split<;>simp<;>omega
def Z13m{a b:Nat}(h:a<=b):pL a<=pL b:=by
 induction h with
 | refl=>exact Ϥ _
 | step _ ih=>simp only[pL];omega
def rowB(r:List ϕ):UInt8:=UInt8.ofNat (Value.gI (r.getD 0 undef)).toNat
def Z19a:∀(f:Nat) (w:Ϛ) (n:Nat),f<=7->n<pL f->Ϫ ϒ 185 #[.int .i64 n] w λe w'=>e=.returned (.string ⟨(lngB f n).toArray⟩)/\Mod [] w w':=by
 intro f;induction f with
 | zero =>
  intro w n hf hn;have hn:n<128:=hn;refine Wp (J:=[.i n]) Z4g ?_;simp only[QR,ra];refine⟨λh v w' hr=>⟨?_,hr.mod⟩,λh=>O⟩;have e:((n:Int) % 256).toNat=n:=O;simp only[lngB,Value.gI,Zb7,e]
 | succ f ih =>
  intro w n hf hn;have hn:n<128*pL f:=hn;have hp:pL f<=128 ^ 7:=by
   have:∀a b,a<=b->pL a<=pL b:=by
    intro a b h;induction h with
    | refl=>exact Ϥ _
    | step _ ih=>simp only[pL];omega
   exact this f 6 O
  have hp:pL f<=562949953421312:=hp;refine Wp (J:=[.i n]) Z4g ?_;have hl:=Zi3 f (n / 128);have hcall:∀w',Ϫ ϒ 185 #[.int .i64 ((n) / 128)] w' λe w1=>e=.returned (.string ⟨(lngB f (n / 128)).toArray⟩)/\Mod [] w' w1:=λw'=>ih w' (n / 128) O O;have hd:¬n<128->UInt8.ofNat ((n:Int) % 128+128).toNat::lngB f (n / 128)=lngB (f+1) n:=λh=>by have e:((n:Int) % 128+128).toNat=n % 128+128:=O;simp only[lngB,ϛ h,e]
  simp only[QR,ra];refine⟨λh v w' hr=>⟨?_,hr.mod⟩,λh=>?_⟩
  ·have e:((n:Int) % 256).toNat=n:=O;rw[Zfx _ _ O];simp only[Value.gI,Zb7,e]
  (repeat refine⟨O,?_⟩);refine⟨λv=>⟨⟨[.s (lngB f (n / 128))],rfl,λ_ w' _=>hcall w',by simp only[QR,ra,Value.gI];refine⟨O,λw' hr=>⟨?_,hr.mod⟩⟩;rw[hd O]⟩,[.s (lngB f (n / 128))],rfl,λ_ w' _=>hcall w',by simp only[QR,ra,Value.gI];refine⟨O,λw' hr=>⟨?_,hr.mod⟩⟩;rw[hd O]⟩,[.s (lngB f (n / 128))],rfl,λ_ w' _=>hcall w',?_⟩
  simp only[QR,ra,Value.gI];refine λv=>⟨O,λw' hr=>⟨?_,hr.mod⟩⟩
  rw[hd O]
def Zuc(F n:Nat)(hF:F<=7)(hn:n<pL F):Ϫ ϒ 151 #[.int .i64 n] w λe w'=>e=.returned (.string ⟨(lngB F n).toArray⟩)/\Mod [] w w':=by
 refine Wp (J:=[.i n]) Zcn ?_;simp only[QR,ra];have hp:pL F<=72057594037927936:=Z13m (show F<=7 from hF);refine⟨λvs=>∃(x f:Nat) (v:ϕ) (rows:List (List ϕ)),vs=[.i x,.v v,.r rows]/\x<pL f/\f<=F/\rows.length+f=F/\rows.map rowB++lngB f x=lngB F n,λvs=>((vs.getD 0 (.i 0)).toI).toNat,⟨n,F,_,[],rfl,hn,Ϥ _,O1,O1⟩,?_⟩;rintro _ - ⟨x,f,v,rows,rfl,hx,hf,hrl,hrows⟩;have hpf:pL f<=72057594037927936:=Z13m (show f<=7 by omega);simp only[QR,ra];refine⟨λh v1=>?_,λh v1=>?_⟩
 ·cases f with
  | zero=>have:x<128:=hx;omega
  | succ f =>
   have hx:x<128*pL f:=hx;have e1:(x:Int).fdiv (2 ^ (Nat.min (Int.toNat 7) IntKind.i64.bits))=(x / 128):=by rw[Zub _ _ U];rfl
   simp only[e1];refine⟨O3,λv2=>⟨⟨x / 128,f,v2,_,rfl,O,O,by simp;omega,?_⟩,O⟩⟩;rw[Ϣ,Ϩ,<- hrows];congr 1;simp only[ε,φ,rowB,Ϭ,Value.gI,Z1hm x O,Z1jy (x % 128) O,Zb7];have e:(((x % 128+128:Nat):Int) % 256).toNat=x % 128+128:=by omega
   rw[e];simp only[lngB,ϛ (show ¬x<128 by omega),θ,ϳ]
 refine⟨by simp;omega,λv2 w' hr=>⟨?_,hr.mod⟩⟩;rw[<- hrows,Zfx _ _ (by omega)];have e:((x:Int) % 256).toNat=x:=by omega
 simp only[Ϣ,ε,φ,Ϭ,Value.gI,Zb7,e];rfl
