/-
  Texts of mine, one behind the other. By an AI agent.
-/
import Derived.Test.YtkhakgbnfapifaaGreatDoorX10
import Derived.Test.YtkhakgbnfapifaaGreatDoorX06
import Derived.Test.YtkhakgbnfapifaaGreatDoorX08
import Derived.Test.YtkhakgbnfapifaaGreatDoorX09
import Derived.Shelf.SlSortCmp.WholeK
import Derived.Sort.OwnSorted
import Derived.Ground.SlsfProg
import Derived.Test.YtkhakgbnfapifaaGreatDoorProg
import Derived.Maps.RangeWalk
import Derived.Maps.OwnOps
import Derived.Sort.KeysCollected
import Derived.WalkKit
import Derived.Test.YtkhakgbnfapifaaGreatDoorX05
set_option linter.unusedSimpArgs false
set_option linter.unusedVariables false
set_option maxHeartbeats 20000000
namespace Go.Proofs.YtkhakgbnfapifaaGreatDoor
open Go Go.Sx Go.Shelf Go.RowKit Go.Lib
set_option maxRecDepth 100000 in
theorem Zry (w:World) (b:Option Addr) (n c i:Nat) (vb:Option Addr) (vc:Nat) (hi:i<=n) (hc:n<=c) (hb:b=none->c=0) : Calls Tryz.prog 236 #[.slice b n c,.int .i64 i,.slice vb 0 vc] w fun e w'=>e=.returned (.slice b n c)/\w'=w:=by
  go_enter Tryz.func236,Tryz.ntmps236
  go_wp2
  all_goals (go_ret;exact⟨rfl,rfl⟩)
set_option maxRecDepth 100000 in
theorem Zwe (w:World) (b:Option Addr) (n c:Nat) (vb:Option Addr) (m vc:Nat) (hm:0<m) (hc:n<=c) (hb:b=none->c=0) (v':Value) (w':World) (hrun:∀ty,(Builtin.append_ #[23,23] ty #[.slice b n c,.slice vb m vc]).run Tryz.prog w=.ok v' w') : Calls Tryz.prog 236 #[.slice b n c,.int .i64 n,.slice vb m vc] w fun e w1=>e=.returned v'/\w1=w':=by
  have hz1:¬((m:Int)=0):=by omega
  go_enter Tryz.func236,Tryz.ntmps236
  go_wp2_with (at_builtin;refine Lib.wpList_append_run _ rfl _ _ _ _ rfl _ _ rfl rfl _ _ (hrun _) ?_)
  all_goals (go_ret;exact⟨rfl,rfl⟩)
set_option maxRecDepth 100000 in
theorem Zob (w:World) (g n c i vb m vc:Nat) (cs vs:List Value) (cur vcur cur2:Array Value) (hi:i<n) (hm:0<m) (hroom:n+m<=c) (hc63:c<=9223372036854775807) (hvb:vb≠g) (hg:w.heap[g]?=some (.cells cur 90 (0,0))) (hcs:cur.size=c*3) (hv:w.heap[vb]?=some (.cells vcur 90 (0,0))) (hvl:m*3<=vcur.size) (e1:cs=(cur.toList.drop (i*3)).take ((n - i)*3)) (e2:vs=vcur.toList.take (m*3)) (h1c:∀v∈cs,v.oneCell'=true) (h1v:∀v∈vs,v.oneCell'=true) (e3:cur2.toList=cur.toList.take (i*3)++vs++cs++cur.toList.drop ((n+m)*3)) : Calls Tryz.prog 236 #[.slice (some ⟨g,0,none⟩) n c,.int .i64 i,.slice (some ⟨vb,0,none⟩) m vc] w fun e w'=>e=.returned (.slice (some ⟨g,0,none⟩) (n+m) c)/\w'=w.drew.setRow g cur2:=by
  have hz1:¬((m:Int)=0):=by omega
  have hz2:¬((i:Int)=(n:Int)):=by omega
  have hw1:IntKind.i64.wrap ((i:Int)+(m:Int))=(i:Int)+(m:Int):=by rw[IntKind.wrap_i64];omega
  have hw2:IntKind.i64.wrap ((n:Int)+(m:Int))=(n:Int)+(m:Int):=by rw[IntKind.wrap_i64];omega
  have hb1:(0:Int)<=(i:Int)+(m:Int):=by omega
  have hin:i<=n:=by omega
  have htn:((i:Int)+(m:Int)).toNat=i+m:=by omega
  have htn2:((n:Int)+(m:Int)).toNat=n+m:=by omega
  have hb2:¬(c=i+m):=by omega
  have hb3:(i:Int)<=(n:Int)+(m:Int):=by omega
  have hb4:¬(c=i):=by omega
  have hsz:(Tryz.prog.info? 90).map (·.size)=some 3:=by kernel_rfl
  have hso:∀w,(Go.sizeOf 90).run Tryz.prog w=.ok 3 w:=fun w=>by
    cases hq:Tryz.prog.info? 90 with
    | none=>rw[hq]at hsz;simp at hsz
    | some i=>rw[hq]at hsz;simp at hsz;simp[sizeOf,typeInfo,hq,hsz]
  have hu:=Tryz.underlying23;have hov:∀o lb cb,(callFunc 287 #[.slice (some ⟨vb,0,none⟩) m vc,.slice (some ⟨g,o,none⟩) lb cb]).run Tryz.prog w=.ok (.value (.bool false)) w:=fun o lb cb=>by
    rw[run_callFunc_extern Tryz.func287 (by kernel_rfl) (by kernel_rfl) (by kernel_rfl) (e:=Extern.SlicesOverlaps.overlaps #[23,23] #[4]) (by kernel_rfl),
      Lib.run_overlaps_apart w 23 4 90 hu 3 hso ⟨vb,0,none⟩ ⟨g,o,none⟩ m vc lb cb hvb 90 90 vcur.size cur.size (by simp[World.shape?,hv]) (by simp[World.shape?,hg]) (by omega) (by simp[World.frozen?,hv]) (by simp[World.frozen?,hv])]
    rfl
  have hcl:cs.length=(n - i)*3:=by rw[e1];simp;omega
  have hvl2:vs.length=m*3:=by rw[e2];simp;omega
  have hgd:w.drew.heap[g]?=some (.cells cur 90 (0,0)):=hg;have hcp1:∀ty dc sc,(Builtin.copy_ #[23,23] ty #[.slice (some ⟨g,(i+m)*3,none⟩) (n+m - (i+m)) dc,.slice (some ⟨g,i*3,none⟩) (n+m - i) sc]).run Tryz.prog w.drew=.ok (goInt ((n - i:Nat):Int)) (w.drew.setRow g (cur.toList.take ((i+m)*3)++cs++cur.toList.drop ((i+m)*3+cs.length)).toArray):=fun ty dc sc =>
    Zc (P:=Tryz.prog) w.drew 23 23 ty 90 3 g ((i+m)*3) (n+m - (i+m)) dc ⟨g,i*3,none⟩ (n+m - i) sc cur 90 cs (n - i) (by omega) hu hsz hgd hcl (fun j v hj=>by
      rw[e1,List.getElem?_take]at hj;split at hj
      . rw[Addr.add_lit];simp only[World.cell?,hgd];simpa using hj
      . cases hj) (by rw[hcl];omega) h1c
  obtain⟨cur1,hcur1⟩:∃cur1:Array Value,cur1=(cur.toList.take ((i+m)*3)++cs++cur.toList.drop ((i+m)*3+cs.length)).toArray:=⟨_,rfl⟩
  rw[<- hcur1]at hcp1;have hs1:cur1.size=cur.size:=by rw[hcur1];simp only[List.size_toArray,qy11,List.length_take,List.length_drop,Array.length_toList,hcl];omega
  have hcp2:∀(W:World),W.heap=(w.drew.setRow g cur1).heap->∀ty dc,(Builtin.copy_ #[23,23] ty #[.slice (some ⟨g,i*3,none⟩) (n+m - i) dc,.slice (some ⟨vb,0,none⟩) m vc]).run Tryz.prog W=.ok (goInt m) (W.setRow g cur2):=fun W hW ty dc=>by
    have hgW:W.heap[g]?=some (.cells cur1 90 (0,0)):=by rw[hW];exact setRow_heap _ _ _ _ _ _ hgd
    have hvW:W.heap[vb]?=some (.cells vcur 90 (0,0)):=by rw[hW,setRow_other _ _ _ _ hvb];exact hv
    have:=Zc (P:=Tryz.prog) W 23 23 ty 90 3 g (i*3) (n+m - i) dc ⟨vb,0,none⟩ m vc cur1 90 vs m (by omega) hu hsz hgW hvl2 (fun j v hj=>by
      rw[e2,List.getElem?_take]at hj;split at hj
      . rw[Addr.add_lit];simp only[World.cell?,hvW,Nat.zero_add];simpa using hj
      . cases hj) (by rw[hvl2,hs1];omega) h1v
    rw[this];congr 2
    apply Array.toList_inj.1;rw[e3,hcur1];simp only[List.toList_toArray];rw[Zgv cur.toList cs vs (i*3) ((i+m)*3) ((n+m)*3) (by rw[hvl2];omega) (by rw[hcl];omega) (by simp;omega)]
  have mixed:Tryz.prog.follows Departure.mixedOrders=true:=by kernel_rfl
  go_enter Tryz.func236,Tryz.ntmps236
  go_wp2_with (simp only[hov])
  go_region_law_o (refine step_copy_runI rfl _ _ 23 23 rfl _ _ (by simp[Act.eval,Act.put]) (by simp[Act.eval,Act.put]) (hcp1 _ _ _) ?_)
  go_wp2_with (at_builtin;refine wpList_copy_runI _ rfl _ _ 23 23 rfl _ _ rfl rfl (hcp2 _ rfl _ _) ?_)
  go_ret
  first|exact⟨rfl,rfl⟩|exact⟨rfl,by rw[setRow_setRow]⟩
set_option maxRecDepth 100000 in
theorem Zrz (w:World) (g n c i vb m vc:Nat) (hd cs vs:List Value) (cur vcur:Array Value) (hi:i<n) (hm:0<m) (hnc:n<=c) (hroom:c<n+m) (hbig:(n+m)*40<=140737488355328) (hg:w.heap[g]?=some (.cells cur 90 (0,0))) (hcs:cur.size=c*3) (hv:w.heap[vb]?=some (.cells vcur 90 (0,0))) (hvl:m*3<=vcur.size) (e0:hd=cur.toList.take (i*3)) (e1:cs=(cur.toList.drop (i*3)).take ((n - i)*3)) (e2:vs=vcur.toList.take (m*3)) (h1c:∀v∈cs,v.oneCell'=true) (h1v:∀v∈vs,v.oneCell'=true) : Calls Tryz.prog 236 #[.slice (some ⟨g,0,none⟩) n c,.int .i64 i,.slice (some ⟨vb,0,none⟩) m vc] w fun e w'=>∃(G:Nat) (cur3:Array Value),e=.returned (.slice (some ⟨w.heap.size,0,none⟩) (n+m) G)/\n+m<=G/\G<=maxLen/\cur3.size=G*3/\cur3.toList.take ((n+m)*3)=hd++vs++cs /\ w'.heap[w.heap.size]?=some (.cells cur3 90 (0,0))/\w.grownBy w' none:=by
  have hz1:¬((m:Int)=0):=by omega
  have hz2:¬((i:Int)=(n:Int)):=by omega
  have hz3:(c:Int)<(n:Int)+(m:Int):=by omega
  have hw1:IntKind.i64.wrap ((i:Int)+(m:Int))=(i:Int)+(m:Int):=by rw[IntKind.wrap_i64];omega
  have hb1:(0:Int)<=(i:Int)+(m:Int):=by omega
  have hin:i<=n:=by omega
  have htn:((i:Int)+(m:Int)).toNat=i+m:=by omega
  have hb3:(i:Int)<=(n:Int):=by omega
  have hu:=Tryz.underlying23;have hsz:(Tryz.prog.info? 90).map (·.size)=some 3:=by kernel_rfl
  obtain⟨i0,hi0⟩:∃i0,Tryz.prog.info? 90=some i0:=by
    cases hq:Tryz.prog.info? 90 with
    | none=>rw[hq]at hsz;simp at hsz
    | some i=>exact⟨i,rfl⟩
  have hk:i0.size=3:=by rw[hi0]at hsz;simpa using hsz
  have hby:i0.bytes=40:=by
    have:(Tryz.prog.info? 90).map (·.bytes)=some 40:=by kernel_rfl
    rw[hi0]at this;simpa using this
  obtain⟨z,hz,hzs⟩:∃z,i0.zero=some z/\z.cells.size=3:=by
    have:(Tryz.prog.info? 90).bind (fun i=>i.zero.map (fun z=>z.cells.size))=some 3:=by kernel_rfl
    rw[hi0]at this;simp only[Option.bind_some,Option.map_eq_some_iff]at this;exact this
  have hbw:g<w.heap.size:=(Array.getElem?_eq_some_iff.1 hg).1;have hvw:vb<w.heap.size:=(Array.getElem?_eq_some_iff.1 hv).1;have hkk:(n:Int)+(m:Int) - (i:Int)=((n+m - i:Nat):Int):=by omega
  have hik:i+(n+m - i)=n+m:=by omega
  have hgd:w.drew.heap[g]?=some (.cells cur 90 (0,0)):=hg;have hhl:hd.length=i*3:=by rw[e0];simp;omega
  have hold:(Builtin.firstCells i0.size i (.slice (some ⟨g,0,none⟩) i c)).run Tryz.prog w.drew=.ok hd.toArray w.drew:=by
    rw[hk];exact run_firstCells_some w.drew 3 i ⟨g,0,none⟩ i c hd hhl (fun j v hj=>by
      rw[Addr.add_lit];rw[e0,List.getElem?_take]at hj;split at hj
      . simp only[World.cell?,hgd,Nat.zero_add];simpa using hj
      . cases hj)
  have hrz:∀ty,(Builtin.append_ #[23,3] ty #[.slice (some ⟨g,0,none⟩) i c,.int .i64 ((n:Int)+(m:Int) - (i:Int))]).run Tryz.prog w =
      .ok (.slice (some ⟨w.heap.size,0,none⟩) (n+m) (grownCap w (n+m) c 90)) (w.drew.alloc (.cells (hd.toArray++Builtin.zeroCells z.cells (n+m - i)++Builtin.zeroCells z.cells (grownCap w (n+m) c 90 - (n+m))) 90)):=fun ty=>by
    have h:=Lib.run_append_grow_zeros w 23 3 ty 90 i0 z .i64 .i64 hu Tryz.underlying3 hi0 hz (some ⟨g,0,none⟩) i c hd hold (n+m - i) (by omega) (by omega) (by omega) (by omega) (by rw[hby];omega) (by rw[hby,hik];exact growslice_fits hroom hbig);rw[hik]at h;rw[hkk];exact h
  obtain⟨G,hG⟩:∃G,G=grownCap w (n+m) c 90:=⟨_,rfl⟩
  obtain⟨ROW,hROW⟩:∃ROW:Array Value,ROW=hd.toArray++Builtin.zeroCells z.cells (n+m - i)++Builtin.zeroCells z.cells (G - (n+m)):=⟨_,rfl⟩
  rw[<- hG]at hrz;rw[<- hROW]at hrz;have hGn:n+m<=G:=by rw[hG];exact grownCap_ge w _ _ _
  have hG63:G<=maxLen:=by have:=grownCap_le_maxLen w (n+m) c 90 (by unfold maxLen;omega);rw[<- hG]at this;exact this
  have hG63':G<=9223372036854775807:=hG63;have hRl:ROW.size=G*3:=by rw[hROW];simp only[Array.size_append,List.size_toArray,Z1t,hzs,hhl];omega
  have hRt:ROW.toList.take (i*3)=hd:=by rw[hROW];simp only[Array.toList_append,List.toList_toArray,List.append_assoc];rw[List.take_append_of_le_length (by omega),List.take_of_length_le (by omega)]
  have hcl:cs.length=(n - i)*3:=by rw[e1];simp;omega
  have hvl2:vs.length=m*3:=by rw[e2];simp;omega
  obtain⟨W1,hW1⟩:∃W1,W1=w.drew.alloc (.cells ROW 90):=⟨_,rfl⟩
  rw[<- hW1]at hrz;have hN:W1.heap[w.heap.size]?=some (.cells ROW 90 (0,0)):=by rw[hW1];exact heap_alloc_new w.drew _
  have hO:∀k,k<w.heap.size->W1.heap[k]?=w.heap[k]?:=fun k hk=>by rw[hW1];exact heap_alloc_old w.drew _ hk
  obtain⟨cur2,hcur2⟩:∃cur2:Array Value,cur2=(ROW.toList.take (i*3)++vs++ROW.toList.drop (i*3+vs.length)).toArray:=⟨_,rfl⟩
  obtain⟨cur3,hcur3⟩:∃cur3:Array Value,cur3=(cur2.toList.take ((i+m)*3)++cs++cur2.toList.drop ((i+m)*3+cs.length)).toArray:=⟨_,rfl⟩
  have hs2:cur2.size=ROW.size:=by rw[hcur2];simp only[List.size_toArray,qy11,List.length_take,List.length_drop,Array.length_toList,hvl2];omega
  have hs3:cur3.size=ROW.size:=by rw[hcur3];simp only[List.size_toArray,qy11,List.length_take,List.length_drop,Array.length_toList,hcl,hs2];omega
  have ht3:cur3.toList.take ((n+m)*3)=hd++vs++cs:=by rw[hcur3,hcur2];simp only[List.toList_toArray];rw[hRt,Zgw hd vs cs _ ((i+m)*3) (by omega)];rw[List.take_append_of_le_length (by simp only[qy11];omega),List.take_of_length_le (by simp only[qy11];omega)]
  have hcpA:∀(W:World),W.heap=W1.heap->∀ty dc,(Builtin.copy_ #[23,23] ty #[.slice (some ⟨w.heap.size,i*3,none⟩) (n+m - i) dc,.slice (some ⟨vb,0,none⟩) m vc]).run Tryz.prog W=.ok (goInt m) (W.setRow w.heap.size cur2):=fun W hW ty dc=>by
    rw[hcur2];exact Zc (P:=Tryz.prog) W 23 23 ty 90 3 w.heap.size (i*3) (n+m - i) dc ⟨vb,0,none⟩ m vc ROW 90 vs m (by omega) hu hsz (by rw[hW];exact hN) hvl2 (fun j v hj=>by
      rw[e2,List.getElem?_take]at hj;split at hj
      . rw[Addr.add_lit];simp only[World.cell?,hW,hO vb hvw,hv,Nat.zero_add];simpa using hj
      . cases hj) (by rw[hvl2,hRl];omega) h1v
  have hcpB:∀(W:World),W.heap=(W1.setRow w.heap.size cur2).heap->∀ty dc sc,(Builtin.copy_ #[23,23] ty #[.slice (some ⟨w.heap.size,(i+m)*3,none⟩) (n+m - (i+m)) dc,.slice (some ⟨g,i*3,none⟩) (n - i) sc]).run Tryz.prog W=.ok (goInt ((n - i:Nat):Int)) (W.setRow w.heap.size cur3):=fun W hW ty dc sc=>by
    rw[hcur3];exact Zc (P:=Tryz.prog) W 23 23 ty 90 3 w.heap.size ((i+m)*3) (n+m - (i+m)) dc ⟨g,i*3,none⟩ (n - i) sc cur2 90 cs (n - i) (by omega) hu hsz (by rw[hW];exact setRow_heap _ _ _ _ _ _ hN) hcl (fun j v hj=>by
      rw[e1,List.getElem?_take]at hj;split at hj
      . rw[Addr.add_lit];simp only[World.cell?,hW,setRow_other _ _ _ _ (Nat.ne_of_lt hbw),hO g hbw,hg];simpa using hj
      . cases hj) (by rw[hcl,hs2,hRl];omega) h1c
  have hGi:¬(G=i):=by omega
  have hGim:¬(G=i+m):=by omega
  have hci:¬(c=i):=by omega
  have hfin:∀W:World,W.heap=(W1.setRow w.heap.size cur2).heap->W.os=w.os->W.tape=w.tape->W.output=w.output->∃(G':Nat) (cur4:Array Value),Ending.returned (.slice (some ⟨w.heap.size,0,none⟩) (n+m) G)=.returned (.slice (some ⟨w.heap.size,0,none⟩) (n+m) G')/\n+m<=G'/\G'<=maxLen/\cur4.size=G'*3/\cur4.toList.take ((n+m)*3)=hd++vs++cs /\
      (W.setRow w.heap.size cur3).heap[w.heap.size]?=some (.cells cur4 90 (0,0))/\w.grownBy (W.setRow w.heap.size cur3) none:=by
    intro W hW ho ht hou;refine⟨G,cur3,rfl,hGn,hG63,by rw[hs3,hRl],ht3,setRow_heap _ _ _ _ _ _ (by rw[hW];exact setRow_heap _ _ _ _ _ _ hN),⟨ho,ht,hou,?_,fun k hk _=>?_⟩⟩
    . rw[setRow_size,hW,setRow_size,hW1];exact Nat.le_of_lt (by show w.heap.size<(w.heap.push _).size;rw[Array.size_push];omega)
    . rw[setRow_other _ _ _ _ (by omega),hW,setRow_other _ _ _ _ (by omega)];exact hO k hk
  subst hW1;have mixed:Tryz.prog.follows Departure.mixedOrders=true:=by kernel_rfl
  have hE1:((w.alloc (.cells ROW 90)).drew).heap=(w.drew.alloc (.cells ROW 90)).heap:=rfl;have hF1:(((w.alloc (.cells ROW 90)).drew.setRow w.heap.size cur2).drew).heap=((w.drew.alloc (.cells ROW 90)).setRow w.heap.size cur2).heap:=rfl;clear hkk hik hold hROW hG hRl hcur2 hcur3 hs2 hs3 ht3 hRt;go_enter Tryz.func236,Tryz.ntmps236
  go_wp2_with (first
    | (at_builtin;refine Lib.wpList_append_run _ rfl _ _ _ _ rfl _ _ rfl rfl _ _ (hrz _) ?_)
    | (at_builtin;refine wpList_copy_runI _ rfl _ _ 23 23 rfl _ _ rfl rfl (hcpA _ hE1 _ _) ?_)
    | (at_builtin;refine wpList_copy_runI _ rfl _ _ 23 23 rfl _ _ rfl rfl (hcpB _ hF1 _ _ _) ?_))
  go_region_law_o (refine step_copy_runI rfl _ _ 23 23 rfl (.slice (some ⟨w.heap.size,(i+m)*3,none⟩) (n+m - (i+m)) (G - (i+m))) (.slice (some ⟨g,i*3,none⟩) (n - i) (c - i)) (by simp[Act.eval,Act.put]) (by simp[Act.eval,Act.put]) (hcpB _ hF1 3 (G - (i+m)) (c - i)) ?_)
  go_wp2
  go_ret
  exact hfin _ rfl rfl rfl rfl
theorem Zs0 (w:World) (s v:Value) (i:Nat) (R V:List (List Value)) (hs:owns w s 90 [.str,.str,.int .i64] R) (hv:owns w v 90 [.str,.str,.int .i64] V) (hne:∀k,Z2 s k->Z2 v k->False) (hi:i<=R.length) (hb:(R.length+V.length)*40<=140737488355328) : Calls Tryz.prog 236 #[s,.int .i64 i,v] w fun e w'=>∃v',e=.returned v'/\Zfd w w' s v' 90 [.str,.str,.int .i64] (R.take i++V++R.drop i):=by
  have hs':=hs;have hv':=hv;obtain⟨hk1,hl1,ho⟩:=hs;obtain⟨hk2,hl2,hov⟩:=hv;have hu:=Tryz.underlying23;have hrl1:∀r∈R,r.length=3:=fun r hr=>(hk1 r hr).length;have hrl2:∀r∈V,r.length=3:=fun r hr=>(hk2 r hr).length;obtain⟨inf,hinf⟩:∃i0,Tryz.prog.info? 90=some i0:=by
    have:(Tryz.prog.info? 90).isSome=true:=by kernel_rfl
    exact Option.isSome_iff_exists.1 this
  have hk:inf.size=3:=by
    have:(Tryz.prog.info? 90).map (·.size)=some 3:=by kernel_rfl
    rw[hinf]at this;simpa using this
  have hby:inf.bytes=40:=by
    have:(Tryz.prog.info? 90).map (·.bytes)=some 40:=by kernel_rfl
    rw[hinf]at this;simpa using this
  obtain⟨z,hz,hzs⟩:∃z,inf.zero=some z/\z.cells.size=3:=by
    have:(Tryz.prog.info? 90).bind (fun i=>i.zero.map (fun z=>z.cells.size))=some 3:=by kernel_rfl
    rw[hinf]at this;simp only[Option.bind_some,Option.map_eq_some_iff]at this;exact this
  have hbase:∀{v:Value} {n:Nat} {xs:List Value},((v=.slice none 0 0/\n=0)\/∃g cap cur,v=.slice (some ⟨g,0,none⟩) n cap/\0<=g/\w.heap[g]?=some (.cells cur 90 (0,0))/\n<=cap/\cap<=maxLen/\cur.size=cap*3/\cur.toList.take (n*3)=xs)->∃b c,v=.slice b n c/\n<=c/\(b=none->c=0):=by
    intro v n xs h;rcases h with ⟨rfl,rfl⟩|⟨g,cap,cur,rfl,-,-,h,-⟩
    . exact⟨none,0,rfl,Nat.le_refl _,fun _=>rfl⟩
    . exact⟨some ⟨g,0,none⟩,cap,rfl,h,fun h=>by cases h⟩
  by_cases hV:V=[]
  . subst hV;obtain⟨b,c,rfl,hc1,hc2⟩:=hbase ho;obtain⟨vb,vc,rfl,-,-⟩:=hbase hov;refine(Zry w b R.length c i vb vc hi hc1 hc2).mono ?_;rintro e w' ⟨rfl,rfl⟩;exact⟨_,rfl,by simpa using hs',fun k hk=>.inl hk,Z7i _ _⟩
  have hVl:0<V.length:=List.length_pos_iff.2 hV;by_cases hin:i=R.length
  . subst hin;obtain⟨b,c,rfl,hc1,hc2⟩:=hbase ho;obtain⟨vb,vc,rfl,-,-⟩:=hbase hov;obtain⟨v',w',h1,h2,h3,h4⟩:=Z5g (ks:=[.str,.str,.int .i64]) (ty:=23) hu hinf hz hk hzs hby (by decide) hs' hv'.reads hb (by decide);have hrun:∀ty,(Builtin.append_ #[23,23] ty #[.slice b R.length c,.slice vb V.length vc]).run Tryz.prog w=.ok v' w':=fun ty=>h1;refine(Zwe w b R.length c vb V.length vc hVl hc1 hc2 v' w' hrun).mono ?_;rintro e w1 ⟨rfl,rfl⟩;exact⟨_,rfl,by simpa using h2,h4,h3⟩
  have hin:i<R.length:=by omega
  rcases ho with ⟨-,hn⟩|⟨g,c,cur,rfl,-,hg,hnc,hcm,hcs,htk⟩
  . omega
  rcases hov with ⟨-,hn⟩|⟨vb,vc,vcur,rfl,-,hvg,hvn,-,hvs,hvt⟩
  . omega
  replace hcs:cur.size=c*3:=hcs;replace hvs:vcur.size=vc*3:=hvs;replace htk:cur.toList.take (R.length*3)=R.flatten:=htk;replace hvt:vcur.toList.take (V.length*3)=V.flatten:=hvt;replace hl1:R.flatten.length=R.length*3:=hl1;have hcl2:cur.toList.length=c*3:=by rw[Array.length_toList];exact hcs
  replace hl2:V.flatten.length=V.length*3:=hl2;have hvb:vb≠g:=fun e=>hne g rfl (by rw[<- e];rfl);have t1:cur.toList.take (i*3)=(R.take i).flatten:=by rw[<- Z1n i hrl1,<- htk,List.take_take,Nat.min_eq_left (by omega)]
  have t2:(cur.toList.drop (i*3)).take ((R.length - i)*3)=(R.drop i).flatten:=by rw[<- Z1o i hrl1,<- htk,List.drop_take,Nat.sub_mul]
  have o1:∀x∈(R.drop i).flatten,x.oneCell'=true:=Z32 fun r hr=>hk1 r (List.mem_of_mem_drop hr);have o2:∀x∈V.flatten,x.oneCell'=true:=Z32 hk2;have hrows:∀r∈R.take i++V++R.drop i,rowOk [.str,.str,.int .i64] r:=by
    intro r hr;simp only[qy13]at hr;rcases hr with (hr|hr)|hr
    . exact hk1 r (List.mem_of_mem_take hr)
    . exact hk2 r hr
    . exact hk1 r (List.mem_of_mem_drop hr)
  have hlen:(R.take i++V++R.drop i).length=R.length+V.length:=by simp;omega
  have hfl:(R.take i++V++R.drop i).flatten.length=(R.length+V.length)*3:=by have:=Za (n:=3) (fun r hr=>(hrows r hr).length);rw[hlen]at this;exact this
  by_cases hroom:R.length+V.length<=c
  . obtain⟨cur2,hcur2⟩:∃cur2:Array Value,cur2=(cur.toList.take (i*3)++V.flatten++(R.drop i).flatten++cur.toList.drop ((R.length+V.length)*3)).toArray:=⟨_,rfl⟩
    refine(Zob w g R.length c i vb V.length vc (R.drop i).flatten V.flatten cur vcur cur2 hin hVl hroom hcm hvb hg hcs hvg (by omega) t2.symm hvt.symm o1 o2 (by rw[hcur2])).mono ?_;rintro e w' ⟨rfl,rfl⟩;have hgd:w.drew.heap[g]?=some (.cells cur 90 (0,0)):=hg;refine⟨_,rfl,⟨hrows,?_,.inr ⟨g,c,cur2,by rw[hlen],Nat.zero_le _,setRow_heap _ _ _ _ _ _ hgd,by omega,hcm,?_,?_⟩⟩,fun k hk=>.inl hk,⟨rfl,rfl,rfl,by rw[setRow_size];exact Nat.le_refl _,fun k hk hkr=>setRow_other _ _ _ _ (fun e=>hkr (by rw[e];rfl))⟩⟩
    . rw[hfl,hlen];rfl
    . show cur2.size=c*3
      rw[hcur2];have:(cur.toList.take (i*3)++V.flatten++(R.drop i).flatten).length=(R.length+V.length)*3:=by rw[t1,<- hfl];simp[List.flatten_append]
      rw[List.size_toArray,qy11,this,List.length_drop,hcl2];omega
    . have:cur.toList.take (i*3)++V.flatten++(R.drop i).flatten=(R.take i++V++R.drop i).flatten:=by
        rw[t1];simp[List.flatten_append]
      show cur2.toList.take (_*3)=_
      rw[hcur2,List.toList_toArray,this,hlen,List.take_append_of_le_length (by omega),List.take_of_length_le (by omega)]
  . refine(Zrz w g R.length c i vb V.length vc (R.take i).flatten (R.drop i).flatten V.flatten cur vcur hin hVl hnc (by omega) (by omega) hg hcs hvg (by omega) t1.symm t2.symm hvt.symm o1 o2).mono ?_;rintro e w' ⟨G,cur3,rfl,q1,q2,q3,q4,q5,q6⟩;refine⟨_,rfl,⟨hrows,?_,.inr ⟨w.heap.size,G,cur3,by rw[hlen],Nat.zero_le _,q5,by omega,q2,q3,?_⟩⟩,fun k hk=>.inr ?_,⟨q6.os,q6.tape,q6.output,q6.size,fun k hk _=>q6.block k hk (by simp)⟩⟩
    . rw[hfl,hlen];rfl
    . rw[hlen]
      show cur3.toList.take ((R.length+V.length)*3)=_
      rw[q4];simp[List.flatten_append]
    . have:w.heap.size=k:=Option.some.inj hk;omega
end Go.Proofs.YtkhakgbnfapifaaGreatDoor
namespace Go.Proofs.YtkhakgbnfapifaaGreatDoor
open Go.Sx
def pw:Nat->Nat
 | 0=>1
 | k+1=>256*pw k
theorem Zs1 {a b:Nat} (h:a<=b):pw a<=pw b:=by
 induction h with
 | refl=>exact Nat.le_refl _
 | step _ ih=>simp only[pw];omega
def numB (k:Nat) (n:Int):List UInt8:=(List.range k).map fun j=>UInt8.ofNat (n / pw (k - 1 - j) % 256).toNat
theorem Z103 (n:Int) (s:Nat) (hs:s<64):n.fdiv (2 ^ (Nat.min s IntKind.i64.bits))=n / (2 ^ s:Nat):=by have:Nat.min s IntKind.i64.bits=s:=Nat.min_eq_left (by show s<=64;omega);rw[this,Int.fdiv_eq_ediv_of_nonneg _ (by exact Int.pow_nonneg (by omega))];simp
theorem Zs2 (n:Int):IntKind.u8.wrap n=n % 256:=IntKind.wrap_u8 n
theorem Z12j (N m:Nat):((N:Int) / (pw m:Int)) / 256=(N:Int) / (pw (m+1):Int):=by
 have h:(N / pw m) / 256=N / pw (m+1):=by rw[Nat.div_div_eq_div_mul,Nat.mul_comm];rfl
 rw[<- Int.natCast_ediv,<- Int.natCast_ediv,<- h];rfl
theorem Z104 (w:World) (n:Int) (k:Nat) (hk:k<=8) (h0:0<=n) (h1:n<=9223372036854775807) : Calls Tryz.prog 249 #[.int .i64 n,.int .i64 k] w fun e w'=>e=.returned (.string ⟨(numB k n).toArray⟩)/\Mod [] w w':=by
 refine Z1 (Z7 (ρ:=[.i n,.i k]) sxE_ok Tryz.func249 Zde rfl rfl rfl ?_) rfl;simp only[Tree.goal,X.P,X.ev,SV.ev,CV.ev,Sc.ev,qz,QA,QB,QC,QD,QE,QF,QG,QH,QI,QJ,QK,QL,QM,Nat.reduceAdd];refine⟨fun vs=>∃(m:Nat) (v:Value),vs=[.i (n / pw m),.v v,.r ((List.range m).map fun j=>[.int .u8 (n / pw j % 256)]),.i m]/\m<=k,fun vs=>(k - (vs.getD 3 (.i 0)).toI).toNat,⟨0,.slice none 0 0,by simp[pw],by omega⟩,?_⟩;rintro _ - ⟨m,v,rfl,hm⟩;simp only[Tree.goal,X.P,X.ev,SV.ev,CV.ev,Sc.ev,qz,QA,QB,QC,QD,QE,QF,QG,QH,QI,QJ,QK,QL,QM,Nat.reduceAdd];refine⟨fun h=>?_,fun h=>?_⟩
 ·intro v1;refine⟨by simp;omega,fun v2=>⟨by omega,by omega,⟨m+1,v2,?_,by omega⟩,by omega⟩⟩;have e1:(n / pw m) / 256=n / pw (m+1):=by
   obtain⟨N,rfl⟩:=Int.eq_ofNat_of_zero_le h0;exact Z12j N m
  have e2:Int.toNat 8=8:=rfl;simp only[List.range_succ,List.map_append,List.map_cons,List.map_nil,List.cons.injEq,V.i.injEq,V.v.injEq,V.r.injEq,and_true,Zs2,e2,Z103 _ 8 (by omega),Nat.reducePow,true_and];exact⟨e1,by omega⟩
 ·have hmk:m=k:=by omega
  subst hmk;have hl:((List.range m).map fun j=>[Value.int .u8 (n / pw j % 256)]).length=m:=by simp
  refine⟨by omega,by omega,fun vs=>∃(i:Nat) (h:Nat->Int),vs=[.i i,.i ((m:Int) - 1 - i),.r ((List.range m).map fun x=>[.int .u8 (h x)])]/\2*i<=m+1/\∀x,x<m->h x=if x<i\/m - 1<x+i then n / pw (m - 1 - x) % 256 else n / pw x % 256,
   fun vs=>((vs.getD 1 (.i 0)).toI+1 - (vs.getD 0 (.i 0)).toI).toNat,⟨0,fun x=>n / pw x % 256,by simp,by omega,fun x hx=>by rw[if_neg (by omega)]⟩,?_⟩
  rintro _ - ⟨i,h,rfl,hi,hh⟩;simp only[Tree.goal,X.P,X.ev,SV.ev,CV.ev,Sc.ev,qz,QA,QB,QC,QD,QE,QF,QG,QH,QI,QJ,QK,QL,QM,Nat.reduceAdd];refine⟨fun hc=>?_,fun hc=>?_⟩
  ·obtain⟨j,hj⟩:∃j:Nat,(m:Int) - 1 - i=j:=⟨m - 1 - i,by omega⟩
   rw[hj]at hc ⊢;have hjm:j<m:=by omega
   have him:i<m:=by omega
   have hget:∀x:Nat,x<m->((List.range m).map fun x=>[Value.int .u8 (h x)]).getD x []=[Value.int .u8 (h x)]:=fun x hx=>by simp[qy1,List.getElem?_map,List.getElem?_range hx]
   have q1:((j:Nat):Int)<(m:Int):=by omega
   have q2:((i:Nat):Int)<(m:Int):=by omega
   have q3:(0:Int)<=(i:Int):=by omega
   have q4:(0:Int)<=(j:Int):=by omega
   have q5:(-9223372036854775808:Int)<=(i:Int)+1:=by omega
   have q6:(i:Int)+1<=9223372036854775807:=by omega
   have q7:(-9223372036854775808:Int)<=(j:Int) - 1:=by omega
   have q8:(j:Int) - 1<=9223372036854775807:=by omega
   simp only[List.length_set,qy3,List.length_range,qy4,q1,q2,q3,q4,q5,q6,q7,q8,true_and,and_self,hget i him,hget j hjm,List.getD_cons_zero,Value.gI];have hset:(((List.range m).map fun x=>[Value.int .u8 (h x)]).set i [Value.int .u8 (h j)]).set j [Value.int .u8 (h i)]=(List.range m).map fun x=>[Value.int .u8 (if x=j then h i else if x=i then h j else h x)]:=by
    apply List.ext_getElem?;intro x;simp only[List.getElem?_set,List.getElem?_map,List.length_set,qy3,List.length_range];by_cases hx:x<m
    ·rw[List.getElem?_range hx];by_cases h1:j=x
     ·subst h1;simp[hx]
     ·by_cases h2:i=x
      ·subst h2;simp[hx,h1,Ne.symm h1]
      ·simp[h1,h2,Ne.symm h1,Ne.symm h2]
    ·rw[List.getElem?_eq_none (by simp;omega)];have h1:¬j=x:=by omega
     have h2:¬i=x:=by omega
     simp[h1,h2]
   refine⟨⟨i+1,fun x=>if x=j then h i else if x=i then h j else h x,?_,by omega,?_⟩,by omega⟩
   ·rw[hset];simp only[List.cons.injEq,V.i.injEq,and_true,true_and];omega
   ·intro x hx;have a1:=hh i him;have a2:=hh j hjm;rw[if_neg (by omega)]at a1 a2
    show (if x=j then h i else if x=i then h j else h x)=_
    by_cases h1:x=j
    ·subst h1;rw[if_pos rfl,if_pos (by omega),a1];congr 3;congr 2;omega
    ·rw[if_neg h1];by_cases h2:x=i
     ·subst h2;rw[if_pos rfl,if_pos (by omega),a2];congr 3;congr 2;omega
     ·rw[if_neg h2,hh x hx];by_cases h3:x<i\/m - 1<x+i
      ·rw[if_pos h3,if_pos (by omega)]
      ·rw[if_neg h3,if_neg (by omega)]
  ·intro w' hr;refine⟨?_,hr.mod⟩;congr 3
   simp only[numB,List.map_map];refine congrArg List.toArray (List.map_congr_left fun x hx=>?_);have hx:x<m:=by simpa using hx
   simp only[Function.comp,List.getD_cons_zero,Value.gI,hh x hx];by_cases h3:x<i\/m - 1<x+i
   ·rw[if_pos h3]
   ·rw[if_neg h3];have:m - 1 - x=x:=by omega
    rw[this]
theorem Ziq (x:Nat) (h:x<2 ^ 63):(BitVec.ofInt 64 (x:Int)).toNat=x:=by simp[BitVec.toNat_ofInt];omega
theorem Zwf (x:Nat) (h:x<2 ^ 63):IntKind.i64.wrap (x:Int)=x:=by rw[IntKind.wrap_i64];omega
theorem Z12k (l:List UInt8) (i:Nat):Value.gI (((l.map fun b=>[Value.int .u8 (b.toNat:Int)]).getD i []).getD 0 undef)=((l.getD i 0).toNat:Int):=by simp only[qy1,List.getElem?_map];cases l[i]?<;>rfl
theorem Z105 (s:List UInt8) (i lo hi:Nat) (h:lo+i<hi):((s.take hi).drop lo).getD i 0=s.getD (lo+i) 0:=by simp only[qy1,List.getElem?_drop,List.getElem?_take,if_pos h]
theorem Z12l (b:UInt8):b.toNat<256:=b.toNat_lt
def beN:List UInt8->Nat->Nat
 | [],n=>n
 | c::l,n=>beN l (256*n+c.toNat)
theorem Zwg (l:List UInt8) (c:UInt8) (n:Nat):beN (l++[c]) n=256*beN l n+c.toNat:=by
 induction l generalizing n with
 | nil=>rfl
 | cons d l ih=>simp[beN,ih]
theorem Zy5 (l:List UInt8):∀n,beN l n<(n+1)*pw l.length:=by
 induction l with
 | nil=>intro n;simp[beN,pw]
 | cons c l ih =>
  intro n;have h1:=ih (256*n+c.toNat);have h2:=Z12l c;have h3:(256*n+c.toNat+1)*pw l.length<=(256*(n+1))*pw l.length:=Nat.mul_le_mul_right _ (by omega);simp only[beN,List.length_cons,pw];rw[<- Nat.mul_assoc,Nat.mul_comm (n+1) 256];omega
theorem Zen (l:List UInt8) (m:Nat) (h:m<l.length):l.take (m+1)=l.take m++[l.getD m 0]:=by rw[List.take_add_one,qy1,qy7 h];rfl
theorem Z106 (n c:Nat) (hn:n<2 ^ 54) (hc:c<256):Z4n .or .i64 (IntKind.i64.wrap ((n:Int)*2 ^ (Nat.min (Int.toNat 8) IntKind.i64.bits))) (c:Int)=((256*n+c:Nat):Int):=by
 have e0:IntKind.i64.wrap ((n:Int)*2 ^ (Nat.min (Int.toNat 8) IntKind.i64.bits))=((n*256:Nat):Int):=by have:Nat.min (Int.toNat 8) IntKind.i64.bits=8:=rfl;rw[this,IntKind.wrap_i64];omega
 rw[e0];simp only[Z4n]
 show IntKind.i64.wrap (((BitVec.ofInt 64 ((n*256:Nat):Int)) ||| (BitVec.ofInt 64 (c:Int))).toNat:Int)=_
 rw[BitVec.toNat_or,Ziq _ (by omega),Ziq c (by omega)];have e:n*256 ||| c=256*n+c:=by have:=Nat.two_pow_add_eq_or_of_lt (i:=8) (b:=c) (by omega) n;rw[show n*256=2 ^ 8*n by omega,<- this]
 rw[e,Zwf _ (by omega)]
def getR (s:List UInt8) (at_ b:Int):Int×Int :=
 if 1<=b/\b<=4 then
  if 0<=at_/\at_<=s.length then
   if (s.length:Int) - at_<b then (0,8) else (beN ((s.drop at_.toNat).take b.toNat) 0,0)
  else (0,3)
 else (0,7)
theorem Zs3 {s:List UInt8} {at_ b:Int} (h:¬(1<=b/\b<=4)):getR s at_ b=(0,7):=if_neg h
theorem Zoc {s:List UInt8} {at_ b:Int} (h:1<=b/\b<=4) (h1:¬(0<=at_/\at_<=s.length)):getR s at_ b=(0,3):=by rw[getR,if_pos h,if_neg h1]
theorem Zod {s:List UInt8} {at_ b:Int} (h:1<=b/\b<=4) (h1:0<=at_/\at_<=s.length) (h2:(s.length:Int) - at_<b):getR s at_ b=(0,8):=by rw[getR,if_pos h,if_pos h1,if_pos h2]
theorem Z107 {s:List UInt8} {at_ b:Int} (h:1<=b/\b<=4) (h1:0<=at_/\at_<=s.length) (h2:¬(s.length:Int) - at_<b):getR s at_ b=(((beN ((s.drop at_.toNat).take b.toNat) 0:Nat):Int),0):=by rw[getR,if_pos h,if_pos h1,if_neg h2]
theorem beN4 (s:List UInt8) (at_ m:Nat) (h:m<=4):beN ((s.drop at_).take m) 0<4294967296:=by have h1:=Zy5 ((s.drop at_).take m) 0;have h2:pw ((s.drop at_).take m).length<=pw 4:=Zs1 (by simp;omega);have h3:pw 4=4294967296:=rfl;omega
theorem Zwh (s:List UInt8) (a k:Nat) (h:a+k<s.length):beN ((s.drop a).take (k+1)) 0=256*beN ((s.drop a).take k) 0+(s.getD (a+k) 0).toNat:=by rw[Zen _ _ (by simp;omega),Zwg];simp only[qy1,List.getElem?_drop]
theorem Z108 (w:World) (s:List UInt8) (at_ b:Int) (hs:s.length<4611686018427387904):Calls Tryz.prog 242 #[.string ⟨s.toArray⟩,.int .i64 at_,.int .i64 b] w fun e w'=>e=.returned (.tuple #[.int .i64 (getR s at_ b).1,.int .i64 (getR s at_ b).2])/\Mod [] w w':=by
 refine Z1 (Z7 (ρ:=[.s s,.i at_,.i b]) sxE_ok Tryz.func242 Zgg rfl rfl rfl ?_) rfl;simp only[Tree.goal,X.P,X.ev,SV.ev,CV.ev,Sc.ev,qz,QA,QB,QC,QD,QE,QF,QG,QH,QI,QJ,QK,QL,QM,Nat.reduceAdd];refine⟨fun h w' hr=>⟨by rw[Zs3 (by omega)],hr.mod⟩,fun h=>?_⟩;refine⟨fun h1 w' hr=>⟨by rw[Zoc (by omega) h1],hr.mod⟩,fun h1=>?_⟩;refine⟨by omega,by omega,fun h2 w' hr=>⟨by rw[Zod (by omega) (by omega) h2],hr.mod⟩,fun h2=>?_⟩;obtain⟨a,rfl⟩:∃a:Nat,at_=a:=⟨at_.toNat,by omega⟩
 obtain⟨k,rfl⟩:∃k:Nat,b=k:=⟨b.toNat,by omega⟩
 (repeat refine⟨by omega,?_⟩)
 intro v;refine⟨fun vs=>∃m:Nat,vs=[.i (beN ((s.drop a).take m) 0),.i m]/\m<=k,fun vs=>(k - (vs.getD 1 (.i 0)).toI).toNat,⟨0,by simp[beN],by omega⟩,?_⟩;rintro _ - ⟨m,rfl,hm⟩;have e0:((a:Int)+(k:Int)).toNat=a+k:=by omega
 simp only[Tree.goal,X.P,X.ev,SV.ev,CV.ev,Sc.ev,qz,QA,QB,QC,QD,QE,QF,QG,QH,QI,QJ,QK,QL,QM,Nat.reduceAdd,qy3,List.length_drop,List.length_take,Z12k,qy4,e0];have hb:=beN4 s a m (by omega);refine⟨fun h3=>?_,fun h3 w' hr=>⟨?_,hr.mod⟩⟩
 ·have e2:=Zwh s a m (by omega);have hc:=Z12l (s.getD (a+m) 0);rw[Z105 _ _ _ _ (by omega),Z106 _ _ (by omega) hc]
  (repeat refine⟨by omega,?_⟩);refine⟨⟨m+1,?_,by omega⟩,by omega⟩
  rw[e2];simp
 ·have:m=k:=by omega
  subst this;rw[Z107 (by omega) (by omega) h2];simp only[qy4]
def txtB (t:List UInt8):List UInt8:=numB 2 t.length++t
abbrev Ak:=List UInt8×Int
structure Pkt where
 kind:Int
 dup:Bool
 retain:Bool
 clean:Bool
 session:Bool
 qos:Int
 id:Int
 keep:Int
 code:Int
 client:List UInt8
 topic:List UInt8
 payload:List UInt8
 asks:List Ak
 codes:List Int
 deriving DecidableEq
abbrev pD_Q (k:Int):Pkt:=⟨k,false,false,false,false,0,0,0,0,[],[],[],[],[]⟩
def Zoe (k:Int):Bool:=decide ((1<=k/\k<=4)\/(8<=k/\k<=14))
def idB (p:Pkt):Bool:=decide ((p.kind=3/\p.qos=1)\/p.kind=4\/(8<=p.kind/\p.kind<=11))
def cliB (s:List UInt8):Bool:=decide (1<=(s.length:Int)/\(s.length:Int)<=20) && Z1w s
def Z30 (p:Pkt):Pkt :=
 if p.kind=1 then { p with client:=[],clean:=false,keep:=0 }
 else if p.kind=2 then { p with code:=0,session:=false }
 else if p.kind=3 then { p with dup:=false,qos:=0,retain:=false,topic:=[],payload:=[],id:=0 }
 else if p.kind=4\/p.kind=11 then { p with id:=0 }
 else if p.kind=8\/p.kind=10 then { p with id:=0,asks:=[] }
 else if p.kind=9 then { p with id:=0,codes:=[] }
 else p
def Zir (p:Pkt):Bool:=decide (p=pD_Q p.kind)
def Zkg (p:Pkt):Int:=if 20<(p.client.length:Int) then 2 else if cliB p.client=true then (if 0<=p.keep/\p.keep<=65535 then 0 else 3) else 1
def Z7j (p:Pkt):Int:=if 0<=p.code/\p.code<=5 then (if p.session=true/\p.code≠0 then 4 else 0) else 3
def pubE (p:Pkt):Int :=
 if chkT p.topic false=0 then
  if 200<(p.payload.length:Int) then 2
  else if 0<=p.qos/\p.qos<=1 then (if p.qos=0/\(p.dup=true\/p.id≠0) then 1 else 0) else 3
 else chkT p.topic false
def Z6h (n:Nat):Int:=if n=0 then 1 else if 5<(n:Int) then 2 else 0
def askE (a:Ak):Int:=if chkT a.1 true=0 then (if 0<=a.2/\a.2<=1 then 0 else 3) else chkT a.1 true
def Zbd (a:Ak):Int:=if chkT a.1 true=0 then (if a.2=0 then 0 else 1) else chkT a.1 true
def Zis (k:Int):List Ak->Int
 | []=>0
 | a::l=>if (if k=8 then askE a else Zbd a)=0 then Zis k l else (if k=8 then askE a else Zbd a)
def Zit (p:Pkt):Int:=if Z6h p.asks.length=0 then Zis p.kind p.asks else Z6h p.asks.length
def Zkh (c:Int):Bool:=decide (c≠0/\c≠1/\c≠128)
def Ziu (p:Pkt):Int:=if Z6h p.codes.length=0 then (if p.codes.any Zkh=true then 3 else 0) else Z6h p.codes.length
def Z3f (p:Pkt):Int :=
 if p.kind=1 then Zkg p else if p.kind=2 then Z7j p else if p.kind=3 then pubE p
 else if p.kind=8\/p.kind=10 then Zit p else if p.kind=9 then Ziu p else 0
def chkP (p:Pkt):Int :=
 if Zoe p.kind=true then
  if Zir (Z30 p)=true then
   if p.kind=3/\pubE p≠0 then pubE p
   else if idB p=true/\¬(1<=p.id/\p.id<=65535) then 3
   else Z3f p
  else 1
 else 7
def Zy6 (k:Int) (a:Ak):List UInt8:=txtB a.1++(if k=8 then numB 1 a.2 else [])
def bit (b:Bool) (n:Int):Int:=if b=true then n else 0
def Z14m (p:Pkt):List UInt8 :=
 if p.kind=1 then txtB [77,81,84,84]++(numB 1 4++numB 1 (bit p.clean 2))++numB 2 p.keep++txtB p.client
 else if p.kind=2 then numB 1 (bit p.session 1)++numB 1 p.code
 else if p.kind=3 then txtB p.topic
 else []
def Z14n (p:Pkt):List UInt8:=Z14m p++(if idB p=true then numB 2 p.id else [])++p.payload++(p.asks.map (Zy6 p.kind)).flatten++(p.codes.map (numB 1)).flatten
def rdN (s:List UInt8) (k a:Nat) (b:Bool):Int×Nat×Bool:=if a+k<=s.length then ((beN ((s.drop a).take k) 0:Nat),a+k,b) else (0,s.length,true)
def rdT (s:List UInt8) (a:Nat) (b:Bool):List UInt8×Nat×Bool :=
 if a+2<=s.length/\a+2+beN ((s.drop a).take 2) 0<=s.length then ((s.drop (a+2)).take (beN ((s.drop a).take 2) 0),a+2+beN ((s.drop a).take 2) 0,b) else ([],a,true)
def rdA (s:List UInt8) (k:Int) (a:Nat) (b:Bool):Ak×Nat×Bool :=
 if k=8 then (((rdT s a b).1,(rdN s 1 (rdT s a b).2.1 (rdT s a b).2.2).1),(rdN s 1 (rdT s a b).2.1 (rdT s a b).2.2).2) else (((rdT s a b).1,0),(rdT s a b).2)
def Z12m (s:List UInt8) (a:Nat) (b:Bool):Nat:=if b=true then 0 else s.length+1 - a
abbrev RS:=Pkt×Nat×Bool
def Z14o (s:List UInt8) (p:Pkt) (a:Nat) (b:Bool):RS :=
 let t1:=rdT s a b
 let n1:=rdN s 1 t1.2.1 t1.2.2
 let n2:=rdN s 1 n1.2.1 n1.2.2
 let n3:=rdN s 2 n2.2.1 n2.2.2
 let t2:=rdT s n3.2.1 n3.2.2
 ({ p with clean:=decide (n2.1=2),keep:=n3.1,client:=t2.1 },t2.2)
def headD (s:List UInt8) (p:Pkt) (a:Nat) (b:Bool):RS :=
 if p.kind=1 then Z14o s p a b
 else if p.kind=2 then ({ p with session:=decide ((rdN s 1 a b).1=1),code:=(rdN s 1 (rdN s 1 a b).2.1 (rdN s 1 a b).2.2).1 },(rdN s 1 (rdN s 1 a b).2.1 (rdN s 1 a b).2.2).2)
 else if p.kind=3 then ({ p with topic:=(rdT s a b).1 },(rdT s a b).2)
 else (p,a,b)
structure FormP (p:Pkt):Prop where
 kind:Zoe p.kind=true
 bare:Z30 p=pD_Q p.kind
 qos:0<=p.qos/\p.qos<=1
 keep:0<=p.keep/\p.keep<65536
 code:0<=p.code/\p.code<256
 id:0<=p.id/\p.id<65536
 noid:idB p=false->p.id=0
 client:p.client.length<65536
 topic:p.topic.length<65536
 asks:∀a∈p.asks,a.1.length<65536/\0<=a.2/\a.2<256/\(p.kind≠8->a.2=0)
 codes:∀c∈p.codes,0<=c/\c<256
def encA (a:Ak):List Value:=[.string ⟨a.1.toArray⟩,.int .i64 a.2]
def Z1h (n:Int):List Value:=[.int .i64 n]
abbrev aD:Ak:=([],0)
abbrev Z82 (w:World) (v:Value) (l:List Ak):Prop:=reads w v [.str,.int .i64] (l.map encA)
abbrev Z72 (w:World) (v:Value) (l:List Int):Prop:=reads w v [.int .i64] (l.map Z1h)
theorem Zfk (w:World):Z82 w (.slice none 0 0) []:=⟨by simp,none,0,rfl,⟨fun _=>rfl,Nat.le_refl _⟩,fun h=>absurd rfl h⟩
theorem Zof (w:World):Z72 w (.slice none 0 0) []:=⟨by simp,none,0,rfl,⟨fun _=>rfl,Nat.le_refl _⟩,fun h=>absurd rfl h⟩
theorem gA0 (l:List Ak) (i:Nat):Value.gS (((l.map encA).getD i []).getD 0 undef)=(l.getD i aD).1:=by simp only[qy1,List.getElem?_map];cases l[i]?<;>simp[encA,Value.gS,undef]
theorem gA1 (l:List Ak) (i:Nat):Value.gI (((l.map encA).getD i []).getD 1 undef)=(l.getD i aD).2:=by simp only[qy1,List.getElem?_map];cases l[i]?<;>simp[encA,Value.gI,undef]
theorem gI0 (l:List Int) (i:Nat):Value.gI (((l.map Z1h).getD i []).getD 0 undef)=l.getD i 0:=by simp only[qy1,List.getElem?_map];cases l[i]?<;>simp[Z1h,Value.gI,undef]
theorem Z12n (l:List Ak) (i:Nat) (h:i<l.length):l.drop i=l.getD i aD::l.drop (i+1):=by rw[List.drop_eq_getElem_cons h,qy1,qy7 h];rfl
theorem Z14p (l:List Int) (i:Nat) (h:i<l.length):l.drop i=l.getD i 0::l.drop (i+1):=by rw[List.drop_eq_getElem_cons h,qy1,qy7 h];rfl
def pV (p:Pkt) (u v:Value):Value:=.agg #[.int .i64 p.kind,.bool p.dup,.bool p.retain,.bool p.clean,.bool p.session,.int .i64 p.qos,.int .i64 p.id,.int .i64 p.keep,.int .i64 p.code,.string ⟨p.client.toArray⟩,.string ⟨p.topic.toArray⟩,.string ⟨p.payload.toArray⟩,sc1 u,sc1 v]
structure SmallP (p:Pkt):Prop where
 client:p.client.length<1000000000
 topic:p.topic.length<1000000000
 payload:p.payload.length<1000000000
 asks:p.asks.length<1000000000
 codes:p.codes.length<1000000000
 filt:∀a∈p.asks,a.1.length<1000000000
theorem SmallP.at_ {p:Pkt} (h:SmallP p) (i:Nat):(p.asks.getD i aD).1.length<1000000000:=by
 by_cases hi:i<p.asks.length
 ·rw[qy1,qy7 hi];exact h.filt _ (List.getElem_mem hi)
 ·rw[qy1,List.getElem?_eq_none (by omega)];decide
theorem SmallP.bare {p:Pkt} (h:SmallP p):SmallP (Z30 p):=by
 obtain⟨a,b,c,d,e,f⟩:=h;unfold Z30
 (repeat' split)<;>exact⟨by simp_all,by simp_all,by simp_all,by simp_all,by simp_all,by first|exact f|(intro a ha;simp at ha)⟩
theorem Z109 (w:World) (n:Int):Calls Tryz.prog 119 #[.int .i64 n] w fun e w'=>e=.returned (.bool (Zoe n))/\Mod [] w w':=by refine Z1 (Z7 (ρ:=[.i n]) sxE_ok Tryz.func119 Zbo rfl rfl rfl ?_) rfl;simp only[Tree.goal,X.P,X.ev,SV.ev,CV.ev,Sc.ev,qz,QA,QB,QC,QD,QE,QF,QG,QH,QI,QJ,QK,QL,QM,Nat.reduceAdd];exact⟨fun h w' hr=>⟨by simp[Zoe,h],hr.mod⟩,fun h w' hr=>⟨by simp[Zoe,h],hr.mod⟩⟩
theorem Ziv (w:World) (s:List UInt8) (hs:s.length<1099511627776):Calls Tryz.prog 33 #[.string ⟨s.toArray⟩] w fun e w'=>e=.returned (.bool (cliB s))/\Mod [] w w':=by refine Z1 (Z7 (ρ:=[.s s]) sxE_ok Tryz.func33 Z4x rfl rfl rfl ?_) rfl;simp only[Tree.goal,X.P,X.ev,SV.ev,CV.ev,Sc.ev,qz,QA,QB,QC,QD,QE,QF,QG,QH,QI,QJ,QK,QL,QM,Nat.reduceAdd];refine⟨[.b (Z1w s)],rfl,fun _ w' _=>Zgk w' s hs,?_⟩;simp only[Tree.goal,X.P,X.ev,SV.ev,CV.ev,Sc.ev,qz,QA,QB,QC,QD,QE,QF,QG,QH,QI,QJ,QK,QL,QM,Nat.reduceAdd];exact fun w' hr=>⟨by simp[cliB],hr.mod⟩
theorem Zs4 (w:World) (n:Nat):Calls Tryz.prog 264 #[.int .i64 n] w fun e w'=>e=.returned (.int .i64 (Z6h n))/\Mod [] w w':=by
 refine Z1 (Z7 (ρ:=[.i n]) sxE_ok Tryz.func264 Zap rfl rfl rfl ?_) rfl;simp only[Tree.goal,X.P,X.ev,SV.ev,CV.ev,Sc.ev,qz,QA,QB,QC,QD,QE,QF,QG,QH,QI,QJ,QK,QL,QM,Nat.reduceAdd];refine⟨fun h w' hr=>⟨?_,hr.mod⟩,fun h=>⟨fun h1 w' hr=>⟨?_,hr.mod⟩,fun h1 w' hr=>⟨?_,hr.mod⟩⟩⟩
 ·rw[Z6h,if_pos (by omega)]
 ·rw[Z6h,if_neg (by omega),if_pos (by omega)]
 ·rw[Z6h,if_neg (by omega),if_neg (by omega)]
theorem Zy7 (w:World) (a:Ak) (h:a.1.length<1000000000):Calls Tryz.prog 221 #[.agg #[.string ⟨a.1.toArray⟩,.int .i64 a.2]] w fun e w'=>e=.returned (.int .i64 (askE a))/\Mod [] w w':=by
 refine Z1 (Z7 (ρ:=[.s a.1,.i a.2]) sxE_ok Tryz.func221 Zd8 rfl rfl rfl ?_) rfl;simp only[Tree.goal,X.P,X.ev,SV.ev,CV.ev,Sc.ev,qz,QA,QB,QC,QD,QE,QF,QG,QH,QI,QJ,QK,QL,QM,Nat.reduceAdd];intro b;refine⟨[.i (chkT a.1 true)],rfl,fun _ w' _=>Zm0 w' _ (by omega),?_⟩;simp only[Tree.goal,X.P,X.ev,SV.ev,CV.ev,Sc.ev,qz,QA,QB,QC,QD,QE,QF,QG,QH,QI,QJ,QK,QL,QM,Nat.reduceAdd];refine⟨fun h w' hr=>⟨by rw[askE,if_neg h],hr.mod⟩,fun h=>⟨fun h1 w' hr=>⟨?_,hr.mod⟩,fun h1 w' hr=>⟨?_,hr.mod⟩⟩⟩
 ·rw[askE,if_pos (qy9.1 h),if_neg h1]
 ·rw[askE,if_pos (qy9.1 h),if_pos (qy9.1 h1)]
section
variable (w:World) (p:Pkt) (u v:Value) (hu:Z82 w u p.asks) (hv:Z72 w v p.codes) (hs:SmallP p)
include hu hv
theorem Z12o:Calls Tryz.prog 123 #[pV p u v] w fun e w'=>e=.returned (.bool (idB p))/\Mod [] w w':=by
 refine Z1 (Z3 (ρ:=[.i p.kind,.b p.dup,.b p.retain,.b p.clean,.b p.session,.i p.qos,.i p.id,.i p.keep,.i p.code,.s p.client,.s p.topic,.s p.payload,.v u,.r (p.asks.map encA),.v v,.r (p.codes.map Z1h)]) sxE_ok Tryz.func123 Zek rfl rfl (Rel.start2 (by simp[Ent.holds,Ent.wr,hu,hv,X.ev])) rfl rfl ?_) rfl;simp only[Tree.goal,X.P,X.ev,SV.ev,CV.ev,Sc.ev,qz,QA,QB,QC,QD,QE,QF,QG,QH,QI,QJ,QK,QL,QM,Nat.reduceAdd];intro b;refine⟨fun h w' hr=>⟨?_,hr.mod⟩,fun h=>⟨fun h1 w' hr=>⟨?_,hr.mod⟩,fun h1=>⟨fun h2 w' hr=>⟨?_,hr.mod⟩,fun h2=>⟨fun h3 w' hr=>⟨?_,hr.mod⟩,fun h3=>⟨fun h4 w' hr=>⟨?_,hr.mod⟩,fun h4=>⟨fun h5 w' hr=>⟨?_,hr.mod⟩,fun h5 w' hr=>⟨?_,hr.mod⟩⟩⟩⟩⟩⟩⟩ <;>
  (simp only[idB,Ending.returned.injEq,Value.bool.injEq];first|exact decide_eq_decide.2 (by omega)|(symm;simp only[decide_eq_true_eq,decide_eq_false_iff_not];omega))
theorem Zog:Calls Tryz.prog 202 #[pV p u v] w fun e w'=>e=.returned (.int .i64 (Z7j p))/\Mod [] w w':=by
 refine Z1 (Z3 (ρ:=[.i p.kind,.b p.dup,.b p.retain,.b p.clean,.b p.session,.i p.qos,.i p.id,.i p.keep,.i p.code,.s p.client,.s p.topic,.s p.payload,.v u,.r (p.asks.map encA),.v v,.r (p.codes.map Z1h)]) sxE_ok Tryz.func202 Z8c rfl rfl (Rel.start2 (by simp[Ent.holds,Ent.wr,hu,hv,X.ev])) rfl rfl ?_) rfl;simp only[Tree.goal,X.P,X.ev,SV.ev,CV.ev,Sc.ev,qz,QA,QB,QC,QD,QE,QF,QG,QH,QI,QJ,QK,QL,QM,Nat.reduceAdd];intro b;refine⟨fun h w' hr=>⟨by rw[Z7j,if_neg h],hr.mod⟩,fun h=>⟨fun h2 w' hr=>⟨?_,hr.mod⟩,fun h2 w' hr=>⟨?_,hr.mod⟩⟩⟩
 ·rw[Z7j,if_pos (qy9.1 h),if_pos h2]
 ·rw[Z7j,if_pos (qy9.1 h),if_neg h2]
include hs
theorem Zwi:Calls Tryz.prog 120 #[pV p u v] w fun e w'=>e=.returned (.bool (Zir p))/\Mod [] w w':=by
 refine Z1 (Z3 (ρ:=[.i p.kind,.b p.dup,.b p.retain,.b p.clean,.b p.session,.i p.qos,.i p.id,.i p.keep,.i p.code,.s p.client,.s p.topic,.s p.payload,.v u,.r (p.asks.map encA),.v v,.r (p.codes.map Z1h)]) sxE_ok Tryz.func120 Zai rfl rfl (Rel.start2 (by simp[Ent.holds,Ent.wr,hu,hv,X.ev])) rfl rfl ?_) rfl;have h1:=hs.client;have h2:=hs.topic;have h3:=hs.payload;have h4:=hs.asks;have h5:=hs.codes;simp only[Tree.goal,X.P,X.ev,SV.ev,CV.ev,Sc.ev,qz,QA,QB,QC,QD,QE,QF,QG,QH,QI,QJ,QK,QL,QM,Nat.reduceAdd,qy3,qy11];intro b;refine⟨.inr (by omega),.inr (by omega),.inr (by omega),fun w' hr=>⟨?_,hr.mod⟩⟩;obtain⟨k,d,r,c,se,q,i,ke,co,cl,t,pl,az,cs⟩:=p;simp only[Zir,Ending.returned.injEq,Value.bool.injEq,Pkt.mk.injEq];have e1:((az.length:Int)+(cs.length:Int)=0)↔az=[]/\cs=[]:=by rw[<- List.length_eq_zero_iff,<- List.length_eq_zero_iff];omega
 rw[Bool.eq_iff_iff];simp only[Bool.and_eq_true,Bool.not_eq_true',decide_eq_true_eq,e1,List.append_eq_nil_iff];constructor<;>(intro h;simp_all)
theorem Zoh:Calls Tryz.prog 201 #[pV p u v] w fun e w'=>e=.returned (.int .i64 (Zkg p))/\Mod [] w w':=by
 refine Z1 (Z3 (ρ:=[.i p.kind,.b p.dup,.b p.retain,.b p.clean,.b p.session,.i p.qos,.i p.id,.i p.keep,.i p.code,.s p.client,.s p.topic,.s p.payload,.v u,.r (p.asks.map encA),.v v,.r (p.codes.map Z1h)]) sxE_ok Tryz.func201 Z8f rfl rfl (Rel.start2 (by simp[Ent.holds,Ent.wr,hu,hv,X.ev])) rfl rfl ?_) rfl;have h1:=hs.client;simp only[Tree.goal,X.P,X.ev,SV.ev,CV.ev,Sc.ev,qz,QA,QB,QC,QD,QE,QF,QG,QH,QI,QJ,QK,QL,QM,Nat.reduceAdd];intro b;refine⟨fun h w' hr=>⟨by rw[Zkg,if_pos h],hr.mod⟩,fun h=>?_⟩;refine⟨[.b (cliB p.client)],rfl,fun _ w' _=>Ziv w' _ (by omega),?_⟩;simp only[Tree.goal,X.P,X.ev,SV.ev,CV.ev,Sc.ev,qz,QA,QB,QC,QD,QE,QF,QG,QH,QI,QJ,QK,QL,QM,Nat.reduceAdd];refine⟨fun h2 w' hr=>⟨by rw[Zkg,if_neg h,if_neg h2],hr.mod⟩,fun h2=>⟨fun h3 w' hr=>⟨?_,hr.mod⟩,fun h3 w' hr=>⟨?_,hr.mod⟩⟩⟩
 ·rw[Zkg,if_neg h,if_pos (qy9.1 h2),if_neg h3]
 ·rw[Zkg,if_neg h,if_pos (qy9.1 h2),if_pos (qy9.1 h3)]
theorem Zfl:Calls Tryz.prog 122 #[pV p u v] w fun e w'=>e=.returned (.int .i64 (pubE p))/\Mod [] w w':=by
 refine Z1 (Z3 (ρ:=[.i p.kind,.b p.dup,.b p.retain,.b p.clean,.b p.session,.i p.qos,.i p.id,.i p.keep,.i p.code,.s p.client,.s p.topic,.s p.payload,.v u,.r (p.asks.map encA),.v v,.r (p.codes.map Z1h)]) sxE_ok Tryz.func122 Z8b rfl rfl (Rel.start2 (by simp[Ent.holds,Ent.wr,hu,hv,X.ev])) rfl rfl ?_) rfl;have h1:=hs.topic;simp only[Tree.goal,X.P,X.ev,SV.ev,CV.ev,Sc.ev,qz,QA,QB,QC,QD,QE,QF,QG,QH,QI,QJ,QK,QL,QM,Nat.reduceAdd];intro b;refine⟨[.i (chkT p.topic false)],rfl,fun _ w' _=>Zf6 w' _ (by omega),?_⟩;simp only[Tree.goal,X.P,X.ev,SV.ev,CV.ev,Sc.ev,qz,QA,QB,QC,QD,QE,QF,QG,QH,QI,QJ,QK,QL,QM,Nat.reduceAdd];refine⟨fun h w' hr=>⟨by rw[pubE,if_neg h],hr.mod⟩,fun h=>?_⟩;have h:=qy9.1 h;refine⟨fun h2 w' hr=>⟨by rw[pubE,if_pos h,if_pos h2],hr.mod⟩,fun h2=>⟨fun h3 w' hr=>⟨?_,hr.mod⟩,fun h3=>⟨fun h4 w' hr=>⟨?_,hr.mod⟩,fun h4 w' hr=>⟨?_,hr.mod⟩⟩⟩⟩
 ·rw[pubE,if_pos h,if_neg h2,if_neg h3]
 ·rw[pubE,if_pos h,if_neg h2,if_pos (qy9.1 h3),if_pos h4]
 ·rw[pubE,if_pos h,if_neg h2,if_pos (qy9.1 h3),if_neg h4]
theorem Zs5:Calls Tryz.prog 203 #[pV p u v] w fun e w'=>e=.returned (.int .i64 (Zit p))/\Mod [] w w':=by
 refine Z1 (Z3 (ρ:=[.i p.kind,.b p.dup,.b p.retain,.b p.clean,.b p.session,.i p.qos,.i p.id,.i p.keep,.i p.code,.s p.client,.s p.topic,.s p.payload,.v u,.r (p.asks.map encA),.v v,.r (p.codes.map Z1h)]) sxE_ok Tryz.func203 Zbt rfl rfl (Rel.start2 (by simp[Ent.holds,Ent.wr,hu,hv,X.ev])) rfl rfl ?_) rfl;have h1:=hs.asks;have hf:=hs.at_;simp only[Tree.goal,X.P,X.ev,SV.ev,CV.ev,Sc.ev,qz,QA,QB,QC,QD,QE,QF,QG,QH,QI,QJ,QK,QL,QM,Nat.reduceAdd,qy3];intro b;refine⟨[.i (Z6h p.asks.length)],rfl,fun _ w' _=>Zs4 w' _,?_⟩;simp only[Tree.goal,X.P,X.ev,SV.ev,CV.ev,Sc.ev,qz,QA,QB,QC,QD,QE,QF,QG,QH,QI,QJ,QK,QL,QM,Nat.reduceAdd,qy3];refine⟨fun h w' hr=>⟨by rw[Zit,if_neg h],hr.mod⟩,fun h=>?_⟩;have h:=qy9.1 h;rw[Zit,if_pos h];refine⟨fun vs=>∃(i:Nat) (x:V),vs=[x,.i i]/\i<=p.asks.length/\Zis p.kind (p.asks.drop i)=Zis p.kind p.asks,fun vs=>p.asks.length - (vs.getD 1 (.i 0)).toI.toNat,⟨0,_,rfl,by omega,rfl⟩,?_⟩;rintro _ - ⟨i,x,rfl,hi,hg⟩;simp only[Tree.goal,X.P,X.ev,SV.ev,CV.ev,Sc.ev,qz,QA,QB,QC,QD,QE,QF,QG,QH,QI,QJ,QK,QL,QM,Nat.reduceAdd,qy3,qy4,gA0,gA1];refine⟨fun h2=>⟨by omega,fun b=>⟨fun hk=>?_,fun hk=>?_⟩⟩,fun h2 w' hr=>⟨?_,hr.mod⟩⟩
 ·rw[Z12n _ _ (by omega),Zis,if_pos hk]at hg;refine⟨[.i (askE (p.asks.getD i aD))],rfl,fun _ w' _=>Zy7 w' _ (hf i),?_⟩;simp only[Tree.goal,X.P,X.ev,SV.ev,CV.ev,Sc.ev,qz,QA,QB,QC,QD,QE,QF,QG,QH,QI,QJ,QK,QL,QM,Nat.reduceAdd];refine⟨fun h3 w' hr=>⟨by rw[<- hg,if_neg h3],hr.mod⟩,fun h3=>⟨by omega,by omega,⟨i+1,x,rfl,by omega,?_⟩,by omega⟩⟩;rw[<- hg,if_pos (qy9.1 h3)]
 ·rw[Z12n _ _ (by omega),Zis,if_neg hk]at hg;have:=hf i;refine⟨[.i (chkT (p.asks.getD i aD).1 true)],rfl,fun _ w' _=>Zm0 w' _ (by omega),?_⟩;simp only[Tree.goal,X.P,X.ev,SV.ev,CV.ev,Sc.ev,qz,QA,QB,QC,QD,QE,QF,QG,QH,QI,QJ,QK,QL,QM,Nat.reduceAdd,gA1];refine⟨fun h3 w' hr=>⟨?_,hr.mod⟩,fun h3=>⟨fun h4 w' hr=>⟨?_,hr.mod⟩,fun h4=>⟨by omega,by omega,⟨i+1,x,rfl,by omega,?_⟩,by omega⟩⟩⟩
  ·have e:Zbd (p.asks.getD i aD)=chkT (p.asks.getD i aD).1 true:=by rw[Zbd,if_neg h3]
   rw[<- hg,e,if_neg h3]
  ·have e:Zbd (p.asks.getD i aD)=1:=by rw[Zbd,if_pos (qy9.1 h3),if_neg h4]
   rw[<- hg,e];rfl
  ·have e:Zbd (p.asks.getD i aD)=0:=by rw[Zbd,if_pos (qy9.1 h3),if_pos (qy9.1 h4)]
   rw[<- hg,e];rfl
 ·have:i=p.asks.length:=by omega
  subst this;rw[List.drop_length]at hg;rw[<- hg];rfl
theorem Zwj:Calls Tryz.prog 204 #[pV p u v] w fun e w'=>e=.returned (.int .i64 (Ziu p))/\Mod [] w w':=by
 refine Z1 (Z3 (ρ:=[.i p.kind,.b p.dup,.b p.retain,.b p.clean,.b p.session,.i p.qos,.i p.id,.i p.keep,.i p.code,.s p.client,.s p.topic,.s p.payload,.v u,.r (p.asks.map encA),.v v,.r (p.codes.map Z1h)]) sxE_ok Tryz.func204 Zao rfl rfl (Rel.start2 (by simp[Ent.holds,Ent.wr,hu,hv,X.ev])) rfl rfl ?_) rfl;have h1:=hs.codes;simp only[Tree.goal,X.P,X.ev,SV.ev,CV.ev,Sc.ev,qz,QA,QB,QC,QD,QE,QF,QG,QH,QI,QJ,QK,QL,QM,Nat.reduceAdd,qy3];intro b;refine⟨[.i (Z6h p.codes.length)],rfl,fun _ w' _=>Zs4 w' _,?_⟩;simp only[Tree.goal,X.P,X.ev,SV.ev,CV.ev,Sc.ev,qz,QA,QB,QC,QD,QE,QF,QG,QH,QI,QJ,QK,QL,QM,Nat.reduceAdd,qy3];refine⟨fun h w' hr=>⟨by rw[Ziu,if_neg h],hr.mod⟩,fun h=>?_⟩;have h:=qy9.1 h;rw[Ziu,if_pos h];refine⟨fun vs=>∃(i:Nat) (x:V),vs=[x,.i i]/\i<=p.codes.length/\(p.codes.drop i).any Zkh=p.codes.any Zkh,fun vs=>p.codes.length - (vs.getD 1 (.i 0)).toI.toNat,⟨0,_,rfl,by omega,rfl⟩,?_⟩;rintro _ - ⟨i,x,rfl,hi,hg⟩;simp only[Tree.goal,X.P,X.ev,SV.ev,CV.ev,Sc.ev,qz,QA,QB,QC,QD,QE,QF,QG,QH,QI,QJ,QK,QL,QM,Nat.reduceAdd,qy3,qy4,gI0];refine⟨fun h2=>?_,fun h2=>?_⟩
 ·rw[Z14p _ _ (by omega),List.any_cons]at hg;refine⟨by omega,fun h3 w' hr=>⟨?_,hr.mod⟩,fun h3=>⟨by omega,by omega,⟨i+1,x,rfl,by omega,?_⟩,by omega⟩⟩
  ·have e:Zkh (p.codes.getD i 0)=true:=by simp only[Zkh,decide_eq_true_eq];exact⟨h3.1.1,h3.1.2,h3.2⟩
   rw[<- hg,e];rfl
  ·have e:Zkh (p.codes.getD i 0)=false:=by
    simp only[Zkh,decide_eq_false_iff_not];exact fun h4=>h3 ⟨⟨h4.1,h4.2.1⟩,h4.2.2⟩
   rw[<- hg,e];rfl
 ·have:i=p.codes.length:=by omega
  subst this;rw[List.drop_length]at hg;rw[<- hg];exact⟨fun h3=>absurd h3 (by omega),fun h3 w' hr=>⟨rfl,hr.mod⟩⟩
end
end Go.Proofs.YtkhakgbnfapifaaGreatDoor
namespace Go.Proofs.YtkhakgbnfapifaaGreatDoor
open Go.Sx
abbrev wV (x:Wt):Value:=.agg #[.string ⟨x.1.toArray⟩,.string ⟨x.2.1.toArray⟩,.int .i64 x.2.2]
theorem c_Or (w:World) (v:Value) (x y:Int) (hv:reads w v [.int .i64] [[.int .i64 x],[.int .i64 y]]):Calls Tryz.prog 222 #[sc1 v] w fun e w'=>e=.returned (.int .i64 (if x=0 then y else x))/\Mod [] w w':=by
  refine Z1 (Z3 (ρ:=[.v v,.r [[.int .i64 x],[.int .i64 y]]]) sxE_ok Tryz.func222 Zdd rfl rfl (Rel.start2 (by simp[Ent.holds,Ent.wr,hv,X.ev])) rfl rfl ?_) rfl;simp only[Tree.goal,X.P,X.ev,SV.ev,CV.ev,Sc.ev,qz,QA,QB,QC,QD,QE,QF,QG,QH,QI,QJ,QK,QL,QM,Nat.reduceAdd];refine⟨fun vs=>∃(i:Nat) (u:V),vs=[u,.i i]/\i<=2/\(1<=i->x=0)/\(2<=i->y=0),fun vs=>2 - (vs.getD 1 (.i 0)).toI.toNat,⟨0,_,rfl,by omega,fun h=>by omega,fun h=>by omega⟩,?_⟩;rintro _ - ⟨i,u,rfl,hi,h1,h2⟩;have h3:i=0\/i=1\/i=2:=by omega
  rcases h3 with rfl|rfl|rfl
  . simp only[Tree.goal,X.P,X.ev,SV.ev,CV.ev,Sc.ev,qz,QA,QB,QC,QD,QE,QF,QG,QH,QI,QJ,QK,QL,QM,Nat.reduceAdd];refine⟨fun _=>⟨by omega,fun h w' hr=>⟨?_,hr.mod⟩,fun h=>⟨by omega,by omega,⟨1,_,rfl,by omega,fun _=>?_,fun h=>by omega⟩,by simp⟩⟩,fun h=>by simp at h⟩
    . rw[if_neg (show ¬x=0 from h)];rfl
    . exact qy9.1 h
  . have hx:=h1 (Nat.le_refl _);simp only[Tree.goal,X.P,X.ev,SV.ev,CV.ev,Sc.ev,qz,QA,QB,QC,QD,QE,QF,QG,QH,QI,QJ,QK,QL,QM,Nat.reduceAdd];refine⟨fun _=>⟨by omega,fun h w' hr=>⟨?_,hr.mod⟩,fun h=>⟨by omega,by omega,⟨2,_,rfl,by omega,fun _=>hx,fun _=>?_⟩,by simp⟩⟩,fun h=>by simp at h⟩
    . rw[if_pos hx];rfl
    . exact qy9.1 h
  . have hx:=h1 (by omega);have hy:=h2 (by omega);simp only[Tree.goal,X.P,X.ev,SV.ev,CV.ev,Sc.ev,qz,QA,QB,QC,QD,QE,QF,QG,QH,QI,QJ,QK,QL,QM,Nat.reduceAdd];refine⟨fun h=>by simp at h,fun _ w' hr=>⟨?_,hr.mod⟩⟩;rw[if_pos hx,hy]
theorem Zki (w:World) (a b:Wt):Calls Tryz.prog 153 #[wV a,wV b] w fun e w'=>e=.returned (.int .i64 (cmpP (ky a) (ky b)))/\Mod [] w w':=by refine Z1 (Z7 (ρ:=[.s a.1,.s a.2.1,.i a.2.2,.s b.1,.s b.2.1,.i b.2.2]) (sxE_ok.joins _) Tryz.func153 Zd6 rfl rfl rfl ?_) rfl;simp only[Tree.goal,X.P,X.ev,SV.ev,CV.ev,Sc.ev,qz,QA,QB,QC,QD,QE,QF,QG,QH,QI,QJ,QK,QL,QM,Nat.reduceAdd];intro b1 b2;refine⟨[.i (Z2u a.1 b.1)],rfl,fun _ w' _=>Z69 w' _ _,?_⟩;simp only[Tree.goal,X.P,X.ev,SV.ev,CV.ev,Sc.ev,qz,QA,QB,QC,QD,QE,QF,QG,QH,QI,QJ,QK,QL,QM,Nat.reduceAdd];refine⟨[.i (Z2u a.2.1 b.2.1)],rfl,fun _ w' _=>Z69 w' _ _,?_⟩;simp only[Tree.goal,X.P,X.ev,SV.ev,CV.ev,Sc.ev,qz,QA,QB,QC,QD,QE,QF,QG,QH,QI,QJ,QK,QL,QM,Nat.reduceAdd];intro v;refine⟨[.i (cmpP (ky a) (ky b))],rfl,fun _ w' hr=>c_Or w' v _ _ (hr.at_ 0 rfl).reads,?_⟩;simp only[Tree.goal,X.P,X.ev,SV.ev,CV.ev,Sc.ev,qz,QA,QB,QC,QD,QE,QF,QG,QH,QI,QJ,QK,QL,QM,Nat.reduceAdd];exact fun w' hr=>⟨by trivial,hr.mod⟩
def Z2n (x:Wt):Int:=if cliB x.1=true then askE (x.2.1,x.2.2) else 1
theorem Z10a (w:World) (x:Wt) (hs:smW x):Calls Tryz.prog 152 #[wV x] w fun e w'=>e=.returned (.int .i64 (Z2n x))/\Mod [] w w':=by have h1:=hs.1;have h2:=hs.2;refine Z1 (Z7 (ρ:=[.s x.1,.s x.2.1,.i x.2.2]) sxE_ok Tryz.func152 Zgi rfl rfl rfl ?_) rfl;simp only[Tree.goal,X.P,X.ev,SV.ev,CV.ev,Sc.ev,qz,QA,QB,QC,QD,QE,QF,QG,QH,QI,QJ,QK,QL,QM,Nat.reduceAdd];intro b1;refine⟨[.b (cliB x.1)],rfl,fun _ w' _=>Ziv w' _ (by omega),?_⟩;simp only[Tree.goal,X.P,X.ev,SV.ev,CV.ev,Sc.ev,qz,QA,QB,QC,QD,QE,QF,QG,QH,QI,QJ,QK,QL,QM,Nat.reduceAdd];refine⟨fun h w' hr=>⟨by rw[Z2n,if_neg h],hr.mod⟩,fun h=>?_⟩;have h:=qy9.1 h;refine⟨[.i (askE (x.2.1,x.2.2))],rfl,fun _ w' _=>Zy7 w' (x.2.1,x.2.2) h2,?_⟩;simp only[Tree.goal,X.P,X.ev,SV.ev,CV.ev,Sc.ev,qz,QA,QB,QC,QD,QE,QF,QG,QH,QI,QJ,QK,QL,QM,Nat.reduceAdd];exact fun w' hr=>⟨by rw[Z2n,if_pos h],hr.mod⟩
def Zby:Option Ky->List Wt->Int
  | _,[]=>0
  | p,k::l=>if Z2n k≠0 then Z2n k else if (p.any fun t=>!(ltP t (ky k)))=true then 4 else Zby (some (ky k)) l
def Zf (l:List Wt):Int:=if 20<(l.length:Int) then 2 else Zby none l
def Zoi (l:List Wt) (i:Nat):Option Ky:=if i=0 then none else some (ky (l.getD (i - 1) wD_V))
theorem Zs6 (l:List Wt) (i:Nat):((Zoi l i).any fun t=>!(ltP t (ky (l.getD i wD_V))))=true↔(0<(i:Int)/\0<=cmpP (ky (l.getD (i - 1) wD_V)) (ky (l.getD i wD_V))):=by
  unfold Zoi;rw[Zrs];by_cases h:i=0
  . simp[h]
  . rw[if_neg h];simp only[Option.any_some,Bool.not_eq_true'];exact⟨fun h2=>⟨by omega,h2⟩,fun h2=>h2.2⟩
theorem Zfm {l:List Wt} {i:Nat} (h:i<l.length):Zby (Zoi l i) (l.drop i)=if Z2n (l.getD i wD_V)≠0 then Z2n (l.getD i wD_V)
    else if 0<(i:Int)/\0<=cmpP (ky (l.getD (i - 1) wD_V)) (ky (l.getD i wD_V)) then 4 else Zby (Zoi l (i+1)) (l.drop (i+1)):=by
  rw[Zzx l i h,Zby];simp only[Zs6];rfl
theorem Zoj (w:World) (v:Value) (l:List Wt) (hv:Z26 w v l) (hs:Z2i l) (hl:l.length<1000000000):Calls Tryz.prog 69 #[sc1 v] w fun e w'=>e=.returned (.int .i64 (Zf l))/\Mod [] w w':=by
  refine Z1 (Z3 (ρ:=[.v v,.r (l.map Zb)]) sxE_ok Tryz.func69 Zdb rfl rfl (Rel.start2 (by simp[Ent.holds,Ent.wr,hv,X.ev])) rfl rfl ?_) rfl;simp only[Tree.goal,X.P,X.ev,SV.ev,CV.ev,Sc.ev,qz,QA,QB,QC,QD,QE,QF,QG,QH,QI,QJ,QK,QL,QM,Nat.reduceAdd,qy3,qy4,Z1u,Z25,Z3c];refine⟨fun h w' hr=>⟨by rw[Zf,if_pos h],hr.mod⟩,fun h=>?_⟩;rw[Zf,if_neg h];refine⟨fun vs=>∃(i:Nat) (x:V),vs=[x,.i i]/\i<=l.length/\Zby (Zoi l i) (l.drop i)=Zby none l,fun vs=>l.length - (vs.getD 1 (.i 0)).toI.toNat,⟨0,_,rfl,by omega,rfl⟩,?_⟩;rintro _ - ⟨i,x,rfl,hi,hg⟩;simp only[Tree.goal,X.P,X.ev,SV.ev,CV.ev,Sc.ev,qz,QA,QB,QC,QD,QE,QF,QG,QH,QI,QJ,QK,QL,QM,Nat.reduceAdd,qy3,qy4,Z1u,Z25,Z3c];have hi1:((i:Int) - 1).toNat=i - 1:=by omega
  try rw[hi1]
  refine⟨fun h1=>⟨by omega,fun b=>?_⟩,fun h1 w' hr=>⟨?_,hr.mod⟩⟩
  . rw[Zfm (by omega)]at hg;refine⟨[.i (Z2n (l.getD i wD_V))],rfl,fun _ w' _=>Z10a w' _ (Z8h hs i),?_⟩;simp only[Tree.goal,X.P,X.ev,SV.ev,CV.ev,Sc.ev,qz,QA,QB,QC,QD,QE,QF,QG,QH,QI,QJ,QK,QL,QM,Nat.reduceAdd,qy3,qy4,Z1u,Z25,Z3c];try rw[hi1]
    refine⟨fun h2 w' hr=>⟨?_,hr.mod⟩,fun h2=>⟨by omega,by omega,by omega,by omega,?_⟩⟩
    . rw[if_pos h2]at hg;rw[<- hg]
    . rw[if_neg h2]at hg;refine⟨[.i (cmpP (ky (l.getD (i - 1) wD_V)) (ky (l.getD i wD_V)))],rfl,fun _ w' _=>Zki w' (l.getD (i - 1) wD_V) (l.getD i wD_V),?_⟩;simp only[Tree.goal,X.P,X.ev,SV.ev,CV.ev,Sc.ev,qz,QA,QB,QC,QD,QE,QF,QG,QH,QI,QJ,QK,QL,QM,Nat.reduceAdd];refine⟨fun h6 w' hr=>⟨?_,hr.mod⟩,fun h6=>⟨by omega,by omega,⟨i+1,x,rfl,by omega,?_⟩,by omega⟩⟩
      . rw[if_pos h6]at hg;rw[<- hg]
      . rw[if_neg h6]at hg;exact hg
  . have:i=l.length:=by omega
    subst this;rw[List.drop_length]at hg;rw[<- hg];rfl
theorem Za0:∀(l:List Wt) (p:Option Ky),Zby p l=0↔(∀k∈l,Z2n k=0)/\Z9y l/\∀t,p=some t->∀k∈l,ltP t (ky k)=true
  | [],p=>by simp[Zby,Z9y]
  | k::l,p=>by
    rw[Zby];constructor
    . intro h;split at h
      . exact absurd h (by assumption)
      rename_i h1;split at h
      . exact absurd h (by decide)
      rename_i h5;obtain⟨i1,i2,i3⟩:=(Za0 l (some (ky k))).1 h;refine⟨fun x hx=>?_,List.pairwise_cons.2 ⟨fun x hx=>i3 _ rfl x hx,i2⟩,fun t ht x hx=>?_⟩
      . rcases List.mem_cons.1 hx with rfl|hx
        . exact qy9.1 h1
        . exact i1 x hx
      . subst ht;have h6:ltP t (ky k)=true:=by simpa using h5
        rcases List.mem_cons.1 hx with rfl|hx
        . exact h6
        . exact Z5k h6 (i3 _ rfl x hx)
    . rintro⟨i1,i2,i3⟩;obtain⟨j1,j2⟩:=List.pairwise_cons.1 i2;rw[if_neg (by simpa using i1 k (qy8 ..)),if_neg]
      . exact(Za0 l (some (ky k))).2 ⟨fun x hx=>i1 x (qy10 _ hx),j2,fun t ht x hx=>by cases ht;exact j1 x hx⟩
      . cases p with
        | none=>simp
        | some t=>simpa using i3 t rfl k (qy8 ..)
theorem Z18 {l:List Wt}:Zf l=0↔l.length<=20/\(∀k∈l,Z2n k=0)/\Z9y l:=by
  unfold Zf;constructor
  . intro h;split at h
    . exact absurd h (by decide)
    . obtain⟨a,b,-⟩:=(Za0 l none).1 h;exact⟨by omega,a,b⟩
  . rintro⟨a,b,c⟩;rw[if_neg (by omega)];exact(Za0 l none).2 ⟨b,c,fun t ht=>by cases ht⟩
theorem Zs7 {v:Value} (hn:(match v with | .slice none _ _=>true|_=>false)=true) {w:World} {ks:List Kd} {rows:List (List Value)} (h:reads w v ks rows):rows=[]:=by obtain⟨_,a,cap,rfl,_,h2⟩:=h;refine Classical.byContradiction fun hne=>?_;obtain⟨ad,rfl,_⟩:=h2 hne;simp at hn
theorem Z44 (w:World) (v:Value) (l:List Wt) (hv:Z26 w v l) (hl:l.length<1000000000):Calls Tryz.prog 206 #[sc1 v] w fun e w'=>∃v',e=.returned (sc1 v')/\Zdq w' v' l/\(∀k,Z2 v' k->w.heap.size<=k)/\Mod [] w w':=by
  refine Z1 (Z3 (ρ:=[.v v,.r (l.map Zb)]) sxE_ok Tryz.func206 Z2l rfl rfl (Rel.start2 (by simp[Ent.holds,Ent.wr,hv,X.ev])) rfl rfl ?_) rfl;simp only[Tree.goal,X.P,X.ev,SV.ev,CV.ev,Sc.ev,qz,QA,QB,QC,QD,QE,QF,QG,QH,QI,QJ,QK,QL,QM,Nat.reduceAdd,qy3,List.nil_append];refine⟨fun h w' hr=>?_,fun h v1=>⟨by simp only[Int.natCast_zero];omega,fun v2 w' hr=>?_⟩⟩
  . have hn:l=[]:=List.map_eq_nil_iff.1 (Zs7 h hv);subst hn;exact⟨_,rfl,hr.at_ 0 rfl,hr.fresh 0 rfl,hr.mod⟩
  . exact⟨v2,rfl,hr.at_ 0 rfl,hr.fresh 0 rfl,hr.mod⟩
theorem Zy8 (w:World) (s v:Value) (l:List Wt) (x:Wt) (i:Nat) (hs:Zdq w s l) (hv:Zdq w v [x]) (hne:∀k,Z2 s k->Z2 v k->False) (hi:i<=l.length) (hl:l.length<1000000) : Calls Tryz.prog 236 #[sc1 s,.int .i64 i,sc1 v] w fun e w'=>∃v',e=.returned (sc1 v')/\Zdq w' v' (l.take i++[x]++l.drop i)/\(∀k,Z2 v' k->Z2 s k\/w.heap.size<=k)/\Mod s.ownBlock.toList w w':=by rw[hs.reads.sc1,hv.reads.sc1];refine(Zs0 w s v i _ _ hs hv hne (by simpa using hi) (by simp;omega)).mono ?_;rintro e w' ⟨v',rfl,g1,g2,g3⟩;refine⟨v',by rw[g1.reads.sc1],?_,g2,Mod.of_grown g3 fun k hk=>.inl (Option.mem_toList.2 hk)⟩;rw[Zdq,List.map_append,List.map_append,List.map_take,List.map_drop];exact g1
theorem Zcf {ρ:List V} {g:List Nat} {i:Nat} (hi:i∈g) {k:Nat} (h:Z2 (ρ.getD i (.i 0)).toV k):k∈Z16 ρ g:=List.mem_flatMap.2 ⟨i,hi,by rw[h];simp⟩
def newW (n:Nat) (u:Value):Prop:=∀k,Z2 u k->n<=k
theorem Zh1 (n:Nat):newW n (.slice none 0 0):=fun k hk=>by simp[Z2,Value.ownBlock]at hk
theorem Zbe (w:World):Z26 w (.slice none 0 0) []:=⟨by simp,none,0,rfl,⟨fun _=>rfl,Nat.le_refl _⟩,fun h=>absurd rfl h⟩
def Z12p (w w':World) (e:Ending) (r:List Wt) (er:Int):Prop:=∃v',e=.returned (.tuple #[sc1 v',.int .i64 er])/\Z26 w' v' r/\newW w.heap.size v'/\Mod [] w w'
def rawW (l:List Wt) (x:Wt):List Wt×Int :=
  if hasW l (ky x)=true then (l.set (idxW l (ky x)) x,0)
  else if (l.length:Int)=20 then ([],2) else (l.take (idxW l (ky x))++[x]++l.drop (idxW l (ky x)),0)
theorem Zcg (R:List Wt) (m:Nat) (x:Wt):(R.map Zb).set m [.string ⟨x.1.toArray⟩,.string ⟨x.2.1.toArray⟩,.int .i64 x.2.2]=(R.set m x).map Zb:=by rw[List.map_set];rfl
theorem Z12q (w:World) (v:Value) (l:List Wt) (x:Wt) (hv:Z26 w v l) (hs:Z9y l) (hl:l.length<=20):Calls Tryz.prog 174 #[sc1 v,wV x] w fun e w'=>Z12p w w' e (rawW l x).1 (rawW l x).2:=by
  refine Z1 (Z3 (ρ:=[.v v,.r (l.map Zb),.s x.1,.s x.2.1,.i x.2.2]) sxE_ok Tryz.func174 Zgj rfl rfl (Rel.start2 (by simp[Ent.holds,Ent.wr,hv,X.ev])) rfl rfl ?_) rfl;simp only[Tree.goal,X.P,X.ev,SV.ev,CV.ev,Sc.ev,qz,QA,QB,QC,QD,QE,QF,QG,QH,QI,QJ,QK,QL,QM,Nat.reduceAdd,qy3,qy4,Z1u,Z25,Z3c];intro b1 w1 hr;refine(Z44 w1 v l (by (first|exact hr.at_ 0 rfl|exact hr.at_ 1 rfl|exact hr.at_ 2 rfl|exact hr.at_ 3 rfl|exact hr.at_ 4 rfl|exact hr.at_ 5 rfl|exact hr.at_ 6 rfl|exact hr.at_ 7 rfl|exact hr.at_ 8 rfl)) (by omega)).mono ?_;rintro e w2 ⟨u,rfl,a1,f1,m1⟩;refine⟨[.v u,.r (l.map Zb)],rfl,rfl,m1,qy5 _,qy2.2 ⟨⟨a1,fun k hk=>.inl (f1 k hk)⟩,qy5 _⟩,Z4,?_⟩;clear hr a1 f1 m1;simp only[Tree.goal,X.P,X.ev,SV.ev,CV.ev,Sc.ev,qz,QA,QB,QC,QD,QE,QF,QG,QH,QI,QJ,QK,QL,QM,Nat.reduceAdd,qy3,qy4,Z1u,Z25,Z3c];intro b3;refine⟨fun vs=>∃(i j:Nat),vs=[.i i,.i j]/\i<=j/\j<=l.length/\(∀k,k<i->ltP (ky (l.getD k wD_V)) (ky x)=true)/\(∀k,j<=k->k<l.length->ltP (ky (l.getD k wD_V)) (ky x)=false),fun vs=>(vs.getD 1 (.i 0)).toI.toNat - (vs.getD 0 (.i 0)).toI.toNat,⟨0,l.length,rfl,by omega,by omega,fun k hk=>by omega,fun k h1 h2=>by omega⟩,?_⟩;rintro _ - ⟨i,j,rfl,hij,hj,hA,hB⟩;simp only[Tree.goal,X.P,X.ev,SV.ev,CV.ev,Sc.ev,qz,QA,QB,QC,QD,QE,QF,QG,QH,QI,QJ,QK,QL,QM,Nat.reduceAdd,qy3,qy4,Z1u,Z25,Z3c];refine⟨fun h1=>?_,fun h1=>?_⟩
  . rw[Z14k i j (by omega)];obtain⟨h,hh⟩:∃h,h=(i+j) / 2:=⟨_,rfl⟩
    rw[<- hh];have hh1:i<=h/\h<j:=by omega
    simp only[qy4,Z1u,Z25,Z3c];refine⟨by omega,by omega,by omega,by omega,by omega,by omega,?_⟩;refine⟨[.i (cmpP (ky (l.getD h wD_V)) (ky x))],rfl,fun _ w' _=>Zki w' (l.getD h wD_V) x,?_⟩;simp only[Tree.goal,X.P,X.ev,SV.ev,CV.ev,Sc.ev,qz,QA,QB,QC,QD,QE,QF,QG,QH,QI,QJ,QK,QL,QM,Nat.reduceAdd,qy3,qy4,Z1u,Z25,Z3c];rw[Zrq];refine⟨fun h2=>⟨by omega,by omega,⟨h+1,j,rfl,by omega,hj,fun k hk=>?_,hB⟩,by omega⟩,fun h2=>⟨⟨i,h,rfl,by omega,by omega,hA,fun k hk1 hk2=>?_⟩,by omega⟩⟩
    . by_cases hkh:k=h
      . rw[hkh];exact h2
      . exact Z5k (Zm7 hs (i:=k) (j:=h) (by omega) (by omega)) h2
    . have h3:ltP (ky (l.getD h wD_V)) (ky x)=false:=by simpa using h2
      by_cases hkh:k=h
      . rw[hkh];exact h3
      . cases h4:ltP (ky (l.getD k wD_V)) (ky x) with
        | false=>rfl
        | true =>
          have:=Z5k (Zm7 hs (i:=h) (j:=k) (by omega) hk2) h4;rw[h3]at this;cases this
  . have hie:i=j:=by omega
    subst hie;have e:=Zrt (i:=i) hj hA hB;refine⟨by omega,by omega,fun h2=>?_,fun h2=>?_⟩
    . refine⟨[.i (cmpP (ky (l.getD i wD_V)) (ky x))],rfl,fun _ w' _=>Zki w' (l.getD i wD_V) x,?_⟩;simp only[Tree.goal,X.P,X.ev,SV.ev,CV.ev,Sc.ev,qz,QA,QB,QC,QD,QE,QF,QG,QH,QI,QJ,QK,QL,QM,Nat.reduceAdd,qy3,qy4,Z1u,Z25,Z3c];rw[Zrr];refine⟨fun h3=>⟨by omega,fun w3 hr=>?_⟩,fun h3=>⟨fun h4 w3 hr=>?_,fun h4 u2 w3 hr=>?_⟩⟩
      . have hh:hasW l (ky x)=true:=by rw[hasW,<- e];exact decide_eq_true ⟨by omega,h3⟩
        rw[rawW,if_pos hh,<- e];refine⟨u,rfl,?_,hr.fresh 1 rfl,hr.mod⟩;have h0:=(hr.at_ 1 rfl).reads;rw[Z26,<- Zcg];exact h0
      . have hh:¬hasW l (ky x)=true:=by rw[hasW,<- e,decide_eq_true_eq];exact fun h=>h3 h.2
        rw[rawW,if_neg hh,if_pos h4];exact⟨_,rfl,Zbe _,Zh1 _,hr.mod⟩
      . have hh:¬hasW l (ky x)=true:=by rw[hasW,<- e,decide_eq_true_eq];exact fun h=>h3 h.2
        rw[rawW,if_neg hh,if_neg h4,<- e];refine(Zy8 w3 u u2 l x i (by (first|exact hr.at_ 0 rfl|exact hr.at_ 1 rfl|exact hr.at_ 2 rfl|exact hr.at_ 3 rfl|exact hr.at_ 4 rfl|exact hr.at_ 5 rfl|exact hr.at_ 6 rfl|exact hr.at_ 7 rfl|exact hr.at_ 8 rfl)) (by (first|exact hr.at_ 0 rfl|exact hr.at_ 1 rfl|exact hr.at_ 2 rfl|exact hr.at_ 3 rfl|exact hr.at_ 4 rfl|exact hr.at_ 5 rfl|exact hr.at_ 6 rfl|exact hr.at_ 7 rfl|exact hr.at_ 8 rfl)) (fun k h5 h6=>hr.sep.disj (i:=2) (j:=0) rfl rfl (by omega) (.inl rfl) (k:=k) h5 h6) (by omega) (by omega)).mono ?_;rintro e w4 ⟨v',rfl,g1,g2,g3⟩;refine⟨[.v v',.r ((l.take i++[x]++l.drop i).map Zb)],rfl,rfl,g3.mono fun k hk=>.inl (by unfold Zv;exact List.mem_append_right _ (Zcf (i:=7) (by simp) (Option.mem_toList.1 hk))),qy5 _,qy2.2 ⟨⟨g1,fun k hk=>?_⟩,qy5 _⟩,Z4,?_⟩;(· rcases g2 k hk with h5|h5;(· exact .inr (.inr (Zcf (i:=7) (by simp) h5)));(· exact .inl h5));(· intro w5 hr5;exact⟨v',rfl,(hr5.at_ 0 rfl).reads,hr5.fresh 0 rfl,hr5.mod⟩)
    . have hh:¬hasW l (ky x)=true:=by rw[hasW,<- e,decide_eq_true_eq];exact fun h=>h2 (by omega)
      refine⟨fun h4 w3 hr=>?_,fun h4 u2 w3 hr=>?_⟩
      . rw[rawW,if_neg hh,if_pos h4];exact⟨_,rfl,Zbe _,Zh1 _,hr.mod⟩
      . rw[rawW,if_neg hh,if_neg h4,<- e];refine(Zy8 w3 u u2 l x i (by (first|exact hr.at_ 0 rfl|exact hr.at_ 1 rfl|exact hr.at_ 2 rfl|exact hr.at_ 3 rfl|exact hr.at_ 4 rfl|exact hr.at_ 5 rfl|exact hr.at_ 6 rfl|exact hr.at_ 7 rfl|exact hr.at_ 8 rfl)) (by (first|exact hr.at_ 0 rfl|exact hr.at_ 1 rfl|exact hr.at_ 2 rfl|exact hr.at_ 3 rfl|exact hr.at_ 4 rfl|exact hr.at_ 5 rfl|exact hr.at_ 6 rfl|exact hr.at_ 7 rfl|exact hr.at_ 8 rfl)) (fun k h5 h6=>hr.sep.disj (i:=2) (j:=0) rfl rfl (by omega) (.inl rfl) (k:=k) h5 h6) (by omega) (by omega)).mono ?_;rintro e w4 ⟨v',rfl,g1,g2,g3⟩;refine⟨[.v v',.r ((l.take i++[x]++l.drop i).map Zb)],rfl,rfl,g3.mono fun k hk=>.inl (by unfold Zv;exact List.mem_append_right _ (Zcf (i:=7) (by simp) (Option.mem_toList.1 hk))),qy5 _,qy2.2 ⟨⟨g1,fun k hk=>?_⟩,qy5 _⟩,Z4,?_⟩;(· rcases g2 k hk with h5|h5;(· exact .inr (.inr (Zcf (i:=7) (by simp) h5)));(· exact .inl h5));(· intro w5 hr5;exact⟨v',rfl,(hr5.at_ 0 rfl).reads,hr5.fresh 0 rfl,hr5.mod⟩)
theorem Z5l (p:Wt->Bool) (l:List Wt) (i:Nat) (h:i<l.length):(l.take (i+1)).filter p=(l.take i).filter p++(if p (l.getD i wD_V)=true then [l.getD i wD_V] else []):=by
  rw[Zkf l i h,List.filter_append];generalize l.getD i wD_V=o
  by_cases h1:p o=true<;>simp[h1]
theorem Za1 {p:Wt->Bool} {l:List Wt} {i:Nat} (h:∀j,j<i->p (l.getD j wD_V)=true):(l.take i).filter p=l.take i:=by rw[List.filter_eq_self];intro x hx;obtain⟨j,hj,rfl⟩:=List.getElem_of_mem hx;simp only[List.length_take]at hj;have:=h j (by omega);rw[List.getElem_take];rwa [qy1,qy7 (by omega)]at this
theorem Zdr {R l:List Wt} {a j:Nat} {p:Wt->Bool} (haj:a<j) (hj:j<l.length) (hR:R.length=l.length) (ht:R.take a=(l.take j).filter p) (hd:R.drop j=l.drop j) (hp:p (l.getD j wD_V)=true) : (R.set a (R.getD j wD_V)).take (a+1)=(l.take (j+1)).filter p:=by
  have hg:R.getD j wD_V=l.getD j wD_V:=by have:=congrArg (fun l=>l[0]?) hd;simp only[List.getElem?_drop,Nat.add_zero]at this;rw[qy1,qy1,this]
  rw[Z5l p l j hj,if_pos hp,<- ht,hg,Zkf _ _ (by simp;omega)];congr 1
  . rw[List.take_set_of_le (Nat.le_refl _)]
  . rw[qy1,List.getElem?_set_self (by omega)];rfl
theorem Z5m {R l:List Wt} {j:Nat} (hd:R.drop j=l.drop j):R.drop (j+1)=l.drop (j+1):=by have:=congrArg (fun l=>l.drop 1) hd;simpa [List.drop_drop,Nat.add_comm]using this
theorem Ziw {R l:List Wt} {j:Nat} (hd:R.drop j=l.drop j):R.getD j wD_V=l.getD j wD_V:=by have:=congrArg (fun l=>l[0]?) hd;simp only[List.getElem?_drop,Nat.add_zero]at this;rw[qy1,qy1,this]
theorem Zkj {l:List Wt} {x:Wt} (hs:Z9y l) (h0:(rawW l x).2=0):(rawW l x).1=loW l (ky x)++[x]++hiW l (ky x):=by
  have t1:=Zw9 (n:=ky x) hs;have t2:=Zm8 (n:=ky x) hs;unfold rawW at h0 ⊢;rcases Zwa (n:=ky x) hs with ⟨h1,k,h2,h3⟩|⟨h1,h2⟩
  . rw[if_pos h1];simp only;have hlt:=(of_decide_eq_true h1).1;rw[List.set_eq_take_append_cons_drop,if_pos hlt,t1];have:l.drop (idxW l (ky x)+1)=hiW l (ky x):=by
      rw[<- List.drop_drop,t2,h2];rfl
    rw[this];simp
  . rw[if_neg (by rw[h1];decide)]at h0 ⊢;by_cases h4:(l.length:Int)=20
    . rw[if_pos h4]at h0;exact absurd h0 (by decide)
    . rw[if_neg h4];simp only;rw[t1,t2,h2,List.nil_append]
theorem Z10b {l:List Wt} {x:Wt} (h:Zf l=0) (hx:Z2n x=0) (h0:(rawW l x).2=0):Zf (rawW l x).1=0:=by
  obtain⟨a,b,c⟩:=Z18.1 h;refine Z18.2 ⟨?_,?_,?_⟩
  . unfold rawW at h0 ⊢;by_cases h1:hasW l (ky x)=true
    . rw[if_pos h1];simpa using a
    . rw[if_neg h1]at h0 ⊢;by_cases h4:(l.length:Int)=20
      . rw[if_pos h4]at h0;exact absurd h0 (by decide)
      . rw[if_neg h4];have:=Zzz l (ky x);simp;omega
  . rw[Zkj c h0];intro k hk;rcases qy13.1 hk with hk|hk
    . rcases qy13.1 hk with hk|hk
      . exact b k (List.mem_filter.1 hk).1
      . rw[qy12.1 hk];exact hx
    . exact b k (List.mem_filter.1 hk).1
  . rw[Zkj c h0];have q1:∀k∈loW l (ky x),ltP (ky k) (ky x)=true:=fun k hk=>(List.mem_filter.1 hk).2;have q2:∀k∈hiW l (ky x),ltP (ky x) (ky k)=true:=fun k hk=>(List.mem_filter.1 hk).2;refine List.pairwise_append.2 ⟨List.pairwise_append.2 ⟨c.filter _,List.pairwise_singleton _ _,fun a ha b hb=>?_⟩,c.filter _,fun a ha b hb=>?_⟩
    . rw[qy12.1 hb];exact q1 a ha
    . rcases qy13.1 ha with ha|ha
      . exact Z5k (q1 a ha) (q2 b hb)
      . rw[qy12.1 ha];exact q2 b hb
end Go.Proofs.YtkhakgbnfapifaaGreatDoor
namespace Go.Proofs.YtkhakgbnfapifaaGreatDoor
open Go Go.Sx Go.Sort
section
variable {α:Type} [Inhabited α] {enc:α->List Value} {k:Nat}
theorem Zfn (hk:∀x,(enc x).length=k) (k0:0<k) (ds:List α):(flatK enc k ds.toArray).toList=(ds.map enc).flatten:=by
 apply List.ext_getElem?;intro j;have hlen:((ds.map enc).flatten).length=ds.length*k:=by have:=Za (rows:=ds.map enc) (n:=k) (fun r hr=>by obtain⟨x,-,rfl⟩:=List.mem_map.1 hr;exact hk x);simpa using this
 by_cases hj:j<ds.length*k
 ·have e1:(flatK enc k ds.toArray).toList[j]?=some (enc ds.toArray[j / k]!)[j % k]!:=by
   rw[Array.getElem?_toList,Array.getElem?_eq_getElem (by simpa using hj),<- get_flatK enc k ds.toArray j (by simpa using hj),getElem!_pos _ j (by simpa using hj)]
  have hd:j / k<ds.length:=(Nat.div_lt_iff_lt_mul k0).2 hj;have hm:j % k<k:=Nat.mod_lt _ k0;have e2:=Z86 (rows:=ds.map enc) (n:=k) (fun r hr=>by obtain⟨x,-,rfl⟩:=List.mem_map.1 hr;exact hk x) (i:=j / k) (c:=j % k) hm;rw[show j / k*k+j % k=j by rw[Nat.mul_comm];exact Nat.div_add_mod j k]at e2;rw[e1,e2,List.getElem?_map,qy7 hd];simp only[Option.map_some,Option.bind_some];have e3:ds.toArray[j / k]! = ds[j / k]:=by rw[getElem!_pos _ _ (by simpa using hd)];simp
  rw[e3,qy7 (by rw[hk];exact hm)];congr 1
  rw[getElem!_pos _ _ (by rw[hk];exact hm)]
 ·rw[List.getElem?_eq_none (by simp;omega),List.getElem?_eq_none (by omega)]
theorem Zds {w:World} {g:Nat} {cur:Array Value} {e:TypeId} (hk:∀x,(enc x).length=k) (k0:0<k) {ds:List α} (hb:w.heap[g]?=some (.cells cur e (0,0))) (ht:cur.toList.take (ds.length*k)=(ds.map enc).flatten) : HoldsK enc k w g 0 ds.toArray:=by
 intro j hj;have hj':j<ds.length*k:=by simpa using hj
 refine⟨?_,by simp[World.frozen?,hb]⟩;have h1:(cur.toList.take (ds.length*k))[j]?=(flatK enc k ds.toArray).toList[j]?:=by rw[ht,Zfn hk k0]
 rw[List.getElem?_take_of_lt hj']at h1;simp only[World.cell?,hb,Nat.zero_add,Option.isSome_none,Bool.false_eq_true,if_false];have e:(flatK enc k ds.toArray)[j]! = (flatK enc k ds.toArray)[j]:=getElem!_pos _ j hj;rw[<- Array.getElem?_toList,h1,Array.getElem?_toList,Array.getElem?_eq_getElem hj,e];rfl
theorem Zix {w:World} {g n:Nat} {os:Array Obj} {cur:Array Value} {e:TypeId} {fr:Nat×Nat} (d:Array α) (hb:w.heap[g]?=some (.cells cur e fr)) : (sortWorldK enc k w g 0 n d os).heap[g]?=some (.cells (putCells id 0 (flatK enc k d) cur) e fr):=by have hg:g<w.heap.size:=(Array.getElem?_eq_some_iff.1 hb).1;unfold sortWorldK putRowK;rw[heap_grow_old _ _ (by simpa using hg)];simp[putRow,mapBlock,Sort.ahead,Array.getElem?_modify,hb,onCells]
theorem Zdt {w:World} {g n:Nat} {os:Array Obj} (d:Array α):w.grownBy (sortWorldK enc k w g 0 n d os) (some g):=by unfold sortWorldK putRowK;refine⟨rfl,rfl,rfl,by simp,fun j hj hne=>?_⟩;rw[heap_grow_old _ _ (by simpa using hj)];have:g≠j:=fun e=>hne (by rw[e]);simp[putRow,mapBlock,Sort.ahead,Array.getElem?_modify,this]
theorem Zdu {w:World} {base g cap n:Nat} {e:TypeId} {os:Array Obj} {cur:Array Value} {ts:List α} (hk:∀x,(enc x).length=k) (k0:0<k) (hbase:base<=g) (hb:w.heap[g]?=some (.cells cur e (0,0))) (h1:ts.length<=cap) (h2:cap<=maxLen) (h3:cur.size=cap*k) : (sortWorldK enc k w g 0 n ts.toArray os).ownsRow base e k (.slice (some ⟨g,0,none⟩) ts.length cap) ts.length (ts.map enc).flatten:=by
 have hlen:((ts.map enc).flatten).length=ts.length*k:=by have:=Za (rows:=ts.map enc) (n:=k) (fun r hr=>by obtain⟨x,-,rfl⟩:=List.mem_map.1 hr;exact hk x);simpa using this
 have hle:ts.length*k<=cur.size:=by rw[h3];exact Nat.mul_le_mul_right k h1
 refine⟨hlen,.inr ⟨g,cap,_,rfl,hbase,Zix _ hb,h1,h2,by simp[putCells,h3],?_⟩⟩;apply List.ext_getElem?;intro j;by_cases hj:j<ts.length*k
 ·rw[List.getElem?_take_of_lt hj,<- Zfn hk k0,Array.getElem?_toList,Array.getElem?_toList];have hj2:j<(flatK enc k ts.toArray).size:=by simpa using hj
  have e:(flatK enc k ts.toArray)[j]! = (flatK enc k ts.toArray)[j]:=getElem!_pos _ j hj2;rw[Array.getElem?_eq_getElem (by simp[putCells];omega),Array.getElem?_eq_getElem hj2,<- e];simp only[putCells,Array.getElem_mapIdx,Nat.zero_add,Nat.sub_zero];rw[if_pos ⟨Nat.zero_le _,hj2⟩];rfl
 ·rw[List.getElem?_take_eq_none (by omega),List.getElem?_eq_none (by omega)]
end
end Go.Proofs.YtkhakgbnfapifaaGreatDoor
namespace Go.Proofs
open Go.Shelf
def Tryz.sortR_ren:Go.Shelf.Ren:=⟨fun|6=>182|15=>240|14=>239|28=>298|29=>299|20=>290|21=>291|22=>292|23=>293|24=>294|25=>295|26=>296|27=>297|46=>326|47=>327|48=>328|49=>329|50=>330|57=>350|n=>n,fun|22=>64|24=>71|25=>204|3=>3|39=>207|0=>0|53=>297|55=>299|4=>4|46=>291|45=>290|50=>118|5=>5|9=>9|66=>320|70=>324|76=>341|77=>342|n=>n,fun|n=>n⟩
theorem Tryz.sortR:Go.Proofs.SlLaysF0.n6 Tryz.prog Tryz.sortR_ren:={
 mixed:=by kernel_rfl
 f6:=⟨Tryz.f182.name,by decide,Tryz.func182.trans (congrArg some (by kernel_rfl))⟩
 f14:=⟨Tryz.f239.name,by decide,Tryz.func239.trans (congrArg some (by kernel_rfl))⟩
 f15:=Tryz.func240.trans (congrArg some (by kernel_rfl))
 f20:=⟨Tryz.f290.name,by decide,Tryz.func290.trans (congrArg some (by kernel_rfl))⟩
 f21:=⟨Tryz.f291.name,by decide,Tryz.func291.trans (congrArg some (by kernel_rfl))⟩
 f22:=⟨Tryz.f292.name,by decide,Tryz.func292.trans (congrArg some (by kernel_rfl))⟩
 f23:=⟨Tryz.f293.name,by decide,Tryz.func293.trans (congrArg some (by kernel_rfl))⟩
 f24:=⟨Tryz.f294.name,by decide,Tryz.func294.trans (congrArg some (by kernel_rfl))⟩
 f25:=⟨Tryz.f295.name,by decide,Tryz.func295.trans (congrArg some (by kernel_rfl))⟩
 f26:=⟨Tryz.f296.name,by decide,Tryz.func296.trans (congrArg some (by kernel_rfl))⟩
 f27:=⟨Tryz.f297.name,by decide,Tryz.func297.trans (congrArg some (by kernel_rfl))⟩
 f28:=Tryz.func298.trans (congrArg some (by kernel_rfl))
 f29:=Tryz.func299.trans (congrArg some (by kernel_rfl))
 f46:=⟨Tryz.f326.name,by decide,Tryz.func326.trans (congrArg some (by kernel_rfl))⟩
 f47:=Tryz.func327.trans (congrArg some (by kernel_rfl))
 f48:=Tryz.func328.trans (congrArg some (by kernel_rfl))
 f49:=⟨Tryz.f329.name,by decide,Tryz.func329.trans (congrArg some (by kernel_rfl))⟩
 f50:=⟨Tryz.f330.name,by decide,Tryz.func330.trans (congrArg some (by kernel_rfl))⟩
 f57:=⟨Tryz.f350.name,by decide,Tryz.func350.trans (congrArg some (by kernel_rfl))⟩
 t0:=Tryz.underlying0
 a0:=Tryz.isAgg0
 z0:=Tryz.sizeOf0
 v0:=Tryz.zeroValue0
 t3:=Tryz.underlying3
 a3:=Tryz.isAgg3
 z3:=Tryz.sizeOf3
 v3:=Tryz.zeroValue3
 t4:=Tryz.underlying4
 a4:=Tryz.isAgg4
 z4:=Tryz.sizeOf4
 v4:=Tryz.zeroValue4
 t5:=Tryz.underlying5
 a5:=Tryz.isAgg5
 z5:=Tryz.sizeOf5
 v5:=Tryz.zeroValue5
 t9:=Tryz.underlying9
 a9:=Tryz.isAgg9
 z9:=Tryz.sizeOf9
 v9:=Tryz.zeroValue9
 t22:=Tryz.underlying64
 a22:=Tryz.isAgg64
 z22:=Tryz.sizeOf64
 v22:=Tryz.zeroValue64
 t25:=Tryz.underlying204
 a25:=Tryz.isAgg204
 z25:=Tryz.sizeOf204
 v25:=Tryz.zeroValue204
 t39:=Tryz.underlying207
 a39:=Tryz.isAgg207
 z39:=Tryz.sizeOf207
 v39:=Tryz.zeroValue207
 t45:=Tryz.underlying290
 a45:=Tryz.isAgg290
 z45:=Tryz.sizeOf290
 v45:=Tryz.zeroValue290
 t46:=Tryz.underlying291
 a46:=Tryz.isAgg291
 z46:=Tryz.sizeOf291
 v46:=Tryz.zeroValue291
 t50:=Tryz.underlying118
 a50:=Tryz.isAgg118
 z50:=Tryz.sizeOf118
 v50:=Tryz.zeroValue118
 t53:=Tryz.underlying297
 a53:=Tryz.isAgg297
 z53:=Tryz.sizeOf297
 v53:=Tryz.zeroValue297
 t55:=Tryz.underlying299
 a55:=Tryz.isAgg299
 z55:=Tryz.sizeOf299
 v55:=Tryz.zeroValue299
 t66:=Tryz.underlying320
 a66:=Tryz.isAgg320
 z66:=Tryz.sizeOf320
 v66:=Tryz.zeroValue320
 t70:=Tryz.underlying324
 a70:=Tryz.isAgg324
 z70:=Tryz.sizeOf324
 v70:=Tryz.zeroValue324
 t76:=Tryz.underlying341
 a76:=Tryz.isAgg341
 z76:=Tryz.sizeOf341
 v76:=Tryz.zeroValue341
 t77:=Tryz.underlying342
 a77:=Tryz.isAgg342
 z77:=Tryz.sizeOf342
 v77:=Tryz.zeroValue342 }
end Go.Proofs
namespace Go.Proofs.YtkhakgbnfapifaaGreatDoor
open Go Go.Sx Go.RowKit Go.Shelf Go.Lib Go.Sort
theorem lawS:Maps.Keyed Tryz.prog 9:=Maps.string_keyed Tryz.underlying9
theorem Z14q (w:World):(zeroValue 3).run Tryz.prog w=.ok (.int .i64 0) w:=by kernel_rfl
def Z83 (n:List UInt8) (l:List Wt) (D:DataW Unit):Prop :=
  Maps.IsMap D/\(∀c,Maps.has D (.string c)=(bst n c none l).isSome)/\∀c q,bst n c none l=some q->∀z,D.atKey (.string c) z=.lit (.int .i64 q)
theorem Zok (n:List UInt8):Z83 n [] (.map []):=⟨Maps.isMap_empty,fun c=>rfl,fun c q h=>by cases h⟩
theorem Zkk {n:List UInt8} {l:List Wt} {D:DataW Unit} {x:Wt} (h:Z83 n l D) (hf:¬forW n x=true):Z83 n (l++[x]) D:=by
  have e:∀c,bst n c none (l++[x])=bst n c none l:=fun c=>by rw[Z9z,if_neg (fun h=>hf h.1)]
  exact⟨h.1,fun c=>by rw[e];exact h.2.1 c,fun c q hq=>by rw[e]at hq;exact h.2.2 c q hq⟩
theorem Zs8 {n:List UInt8} {l:List Wt} {D:DataW Unit} (h:Z83 n l D) {c:List UInt8} {q:Int} (hat:D.atKey (.string c) (.lit (.int .i64 0))=.lit (.int .i64 q)):q=(bst n c none l).getD 0:=by
  cases hb:bst n c none l with
  | none =>
    have:=h.2.1 c;rw[hb]at this;rw[Maps.atKey_of_not_has this]at hat;simp only[DataW.lit.injEq,Lit.int.injEq,true_and]at hat;rw[<- hat];rfl
  | some q' =>
    rw[h.2.2 c q' hb]at hat;simp only[DataW.lit.injEq,Lit.int.injEq,true_and]at hat;rw[<- hat];rfl
theorem Zol {n:List UInt8} {l:List Wt} {D:DataW Unit} {x:Wt} {q:Int} (h:Z83 n l D) (hf:forW n x=true) (hq:q=max ((bst n x.1 none l).getD 0) x.2.2):Z83 n (l++[x]) (D.put (.string x.1) (.lit (.int .i64 q))):=by
  have e0:bst n x.1 none (l++[x])=some q:=by rw[Z9z,if_pos ⟨hf,rfl⟩,hq]
  have e1:∀c,c≠x.1->bst n c none (l++[x])=bst n c none l:=fun c hc=>by rw[Z9z,if_neg (fun h=>hc h.2.symm)]
  refine⟨h.1.put _ _,fun c=>?_,fun c q' hq' z=>?_⟩
  . by_cases hc:c=x.1
    . rw[hc,e0];exact Maps.has_put_same h.1 (show WideAt.IsKeyLit (.string x.1) from trivial) _
    . rw[e1 c hc,Maps.has_put_other (by simpa using hc)];exact h.2.1 c
  . by_cases hc:c=x.1
    . rw[hc,e0]at hq';cases hq';rw[hc];exact Maps.atKey_put_same h.1 (show WideAt.IsKeyLit (.string x.1) from trivial) _ _
    . rw[e1 c hc]at hq';rw[Maps.atKey_put_other (by simpa using hc)];exact h.2.2 c q' hq' z
theorem Z10c {w:World} {a:Addr} {u:Value} (h:w.cell? a=some u):a.block<w.heap.size:=by
  refine Classical.byContradiction fun hn=>?_;have:w.heap[a.block]?=none:=by simp;omega
  simp[World.cell?,this]at h
theorem Zax {w w':World} {a:Addr} {u:Value} (h:w.cell? a=some u) (hb:Below w.heap.size w w'):w'.cell? a=some u:=by rw[<- h];exact World.cell?_of_block (hb.block _ (Z10c h))
theorem Zom {w:World} {ad:Addr} {cap:Nat} {l:List Wt} (hv:Z26 w (.slice (some ad) l.length cap) l) {k:Nat} (hk:k<l.length) : w.cell? (ad.add (k*3))=some (.string ⟨(l.getD k wD_V).1.toArray⟩)/\w.cell? ((ad.add (k*3)).add 1)=some (.string ⟨(l.getD k wD_V).2.1.toArray⟩)/\w.cell? ((ad.add (k*3)).add 2)=some (.int .i64 (l.getD k wD_V).2.2):=by
  have hr:(l.map Zb).getD k []=Zb (l.getD k wD_V):=by rw[qy1,qy1,List.getElem?_map,qy7 hk];rfl
  have key:∀c,c<3->w.cell? ((ad.add (k*3)).add c)=some ((Zb (l.getD k wD_V)).getD c undef):=fun c hc=>by obtain⟨ad',cap',e,h,-⟩:=hv.get (i:=k) (c:=c) (by rw[qy3];exact hk) hc;simp only[Value.slice.injEq,Option.some.injEq]at e;obtain⟨rfl,-,rfl⟩:=e;rw[hr]at h;rw[Addr.add_add];exact h
  refine⟨?_,key 1 (by decide),key 2 (by decide)⟩;have:=key 0 (by decide);rwa [Addr.add_zero']at this
theorem Ziy {w w':World} (h:Mod [] w w'):w.grownBy w' none:=⟨h.os,h.tape,h.output,h.size,fun k hk _=>h.block k hk (by simp)⟩
theorem Zdv (w:World) (o:Obj):(w.alloc o).heap[w.heap.size]?=some o:=by show (w.heap.push o)[w.heap.size]?=some o;simp
theorem Zh2 {w:World} {b:Nat} {cs:Array Value} {t:TypeId} (h:w.heap[b]?=some (.cells cs t (0,0))) (j:Nat):w.cell? ⟨b,j,none⟩=cs[j]?:=by simp[World.cell?,h]
theorem Zwk {x:Int} (h1:-9223372036854775808<=x) (h2:x<=9223372036854775807):(Lit.int .i64 x).wf=true:=WalkArith.wf_i64 (by omega)
theorem Z12r {c y:Int} (hc:(Lit.int .i64 c).wf=true) (h1:0<=y) (h2:y<=1):(Lit.int .i64 (max c y)).wf=true:=by simp[Lit.wf,IntKind.min,IntKind.max,IntKind.signed,IntKind.bits]at hc;exact Zwk (by omega) (by omega)
theorem Z10d:(Tryz.prog.info? 71).map (fun i=>(i.zero,i.size,i.bytes))=some (some (.agg #[.string ⟨#[]⟩,.int .i64 0]),2,24):=by kernel_rfl
theorem Zs9 (w:World) (x y:Value) (t:TypeId):∀j u,[x,y][j]?=some u->(w.alloc (.cells #[x,y] t)).cell? ((⟨w.heap.size,0,none⟩:Addr).add j)=some u:=by
  intro j u hj;rw[Addr.add_lit,Zh2 (Zdv w _)]
  match j,hj with
  | 0,hj=>exact hj
  | 1,hj=>exact hj
def Zsa (D:DataW Unit) (left:Lit->Bool) (ss:List Rd):Prop:=Collected D left (ss.map (·.1))/\∀x∈ss,∀z,D.atKey (.string x.1) z=.lit (.int .i64 x.2)
theorem Zkl (D:DataW Unit):Zsa D (Maps.has D) []:=⟨Collected.start D,by simp⟩
theorem Zon {D:DataW Unit} {left:Lit->Bool} {ss:List Rd} (h:Zsa D left ss) {c:List UInt8} {q:Int} (hlk:left (.string c)=true) (hat:∀z,D.atKey (.string c) z=.lit (.int .i64 q)):Zsa D (fun z=>left z && !z.sameKey (.string c)) (ss++[(c,q)]):=by
  refine⟨by rw[List.map_append];exact h.1.step hlk hat,fun x hx=>?_⟩;rcases qy13.1 hx with hx|hx
  . exact h.2 x hx
  . rw[qy12.1 hx];exact hat
theorem Ziz {n:List UInt8} {l:List Wt} {D:DataW Unit} {left:Lit->Bool} {ss ts:List Rd} (hD:Z83 n l D) (h:Zsa D left ss) (hl:∀k,left k=false) (hp:ts.Perm ss) (hs:∀i j,(hij:i<j)->(hj:j<ts.length)->Zd ts[j].1 (ts[i]'(Nat.lt_trans hij hj)).1=false):okY n ts l:=by
  have hnd:(ts.map (·.1)).Nodup:=(hp.map _).nodup_iff.2 h.1.1;refine⟨?_,fun c q=>?_⟩
  . rw[Zrw,List.pairwise_iff_getElem];intro i j hi hj hij;rcases Z71.1 (hs i j hij hj) with h1|h1
    . exact h1
    . rw[List.nodup_iff_pairwise_ne,List.pairwise_iff_getElem]at hnd;have:=hnd i j (by simpa using hi) (by simpa using hj) hij;simp only[List.getElem_map]at this;exact absurd h1 this
  . rw[hp.mem_iff];constructor
    . intro hm;have h1:=h.2 _ hm;have h2:=(h.1.2 c).1 (List.mem_map.2 ⟨_,hm,rfl⟩);have h3:=hD.2.1 c;rw[h2.1]at h3;cases hb:bst n c none l with
      | none=>rw[hb]at h3;cases h3
      | some q' =>
        have h4:=hD.2.2 c q' hb .nil;rw[h1]at h4;simp only[DataW.lit.injEq,Lit.int.injEq,true_and]at h4;rw[h4]
    . intro hb;have h3:=hD.2.1 c;rw[hb]at h3;obtain⟨x,hx,hxc⟩:=List.mem_map.1 ((h.1.2 c).2 ⟨h3,hl _⟩);have h1:=h.2 x hx .nil;have h4:=hD.2.2 c q hb .nil;rw[hxc,h4]at h1;simp only[DataW.lit.injEq,Lit.int.injEq,true_and]at h1;rw[show (c,q)=x from Prod.ext hxc.symm h1];exact hx
def cmpY (x y:Rd):Int:=Z2u x.1 y.1
theorem Za2 (x y:Rd):ltOf cmpY x y=Zd x.1 y.1:=by
  unfold ltOf cmpY;have:=@Z9x x.1 y.1;cases h:Zd x.1 y.1 with
  | true=>exact decide_eq_true (this.2 h)
  | false=>exact decide_eq_false (fun h2=>by rw[this.1 h2]at h;cases h)
theorem swoY:Sort.SWO (ltOf cmpY) where
  irrefl x:=by rw[Za2];exact Z1g _
  trans x y z h1 h2:=by rw[Za2]at *;exact Z13 h1 h2
  ntrans x y z h1 h2:=by
    rw[Za2]at *;rcases Z71.1 h1 with h1|h1<;>rcases Z71.1 h2 with h2|h2
    . exact Z43 (Z13 h2 h1)
    . rw[h2];exact Z43 h1
    . rw[<- h1];exact Z43 h2
    . rw[h2,h1];exact Z1g _
theorem Z14r (x y:Rd) (W:World):Calls Tryz.prog 183 #[.agg (encY x).toArray,.agg (encY y).toArray] W fun e w'=>e=.returned (.int .i64 (cmpY x y))/\∃q os',w'=grow (W.drewN q) os':=by
  have hcon:∀W',Calls Tryz.prog 162 #[.string ⟨x.1.toArray⟩,.string ⟨y.1.toArray⟩] W' fun e w'=>e=.returned (.int .i64 (cmpY x y))/\w'=W':=fun W'=>by refine(Any.strings_Compare Tryz.lays106 ⟨x.1.toArray⟩ ⟨y.1.toArray⟩ W').mono ?_;rintro e w' ⟨rfl,rfl⟩;rw[Zdp];exact⟨rfl,rfl⟩
  simp only[encY];generalize cmpY x y=r at hcon ⊢
  go_enter Tryz.func183,Tryz.ntmps183
  go_wp2_with (go_at_call 162;refine(hcon _).mono ?_;rintro e w' ⟨rfl,rfl⟩)
  go_ret
  exact⟨rfl,0,_,by rw[alloc_eq_grow,alloc_eq_grow,grow_grow];rfl⟩
theorem Zwl (x:Rd):∀v∈encY x,v.oneCell'=true:=by intro v hv;simp only[encY,List.mem_cons,List.not_mem_nil,or_false]at hv;rcases hv with rfl|rfl<;>rfl
set_option maxRecDepth 100000 in
theorem Z10e (w:World) (f:Value):Calls Tryz.prog 290 #[.slice none 0 0,.int .i64 0,.int .i64 0,f] w fun e w'=>e=.returned (.tuple #[])/\w'=w:=by
  go_enter Tryz.func290,Tryz.ntmps290
  go_wp2
  refine wp_loop_rounds 1 ?_;rw[rounds_succ];go_wp2
  go_end0
  exact⟨rfl,rfl⟩
set_option maxRecDepth 100000 in
theorem Z10f (w:World) (f:Value) (n:Int):Calls Tryz.prog 239 #[.slice none 0 0,.int .i64 0,.int .i64 0,.int .i64 n,f] w fun e w'=>e=.returned (.tuple #[])/\w'=w:=by
  go_enter Tryz.func239,Tryz.ntmps239
  go_wp2
  refine wp_loop_rounds 1 ?_;rw[rounds_succ];go_wp2_with (go_at_call 290;refine(Z10e _ _).mono ?_;rintro e w' ⟨rfl,rfl⟩)
  (try simp only[Exit.inBlock,Exit.then])
  refine bodyPost_ret (results_none rfl _ _ _) rfl ?_;exact⟨rfl,rfl⟩
set_option maxRecDepth 100000 in
theorem Zwm (w:World):Calls Tryz.prog 182 #[.slice none 0 0,.func (.func 183) #[] #[]] w fun e w'=>e=.returned (.tuple #[])/\Mod [] w w':=by
  have hl:∀W,Calls Tryz.prog 240 #[.int .u64 0] W fun e w'=>e=.returned (.int .i64 (Lib.bitLen 0:Nat))/\w'=W:=fun W =>
    Any.bits_Len (SlLaysF0.n15.bits (P:=Tryz.prog) (ρ:=Tryz.sortR_ren) { Tryz.sortR with }) 0 W (by omega) (by omega)
  go_enter Tryz.func182,Tryz.ntmps182
  go_wp2_with (first|(go_at_call 240;refine(hl _).mono ?_;rintro e w' ⟨rfl,rfl⟩)|(go_at_call 239;refine(Z10f _ _ _).mono ?_;rintro e w' ⟨rfl,rfl⟩))
  go_end0
  exact⟨rfl,Mod.refl _ _⟩
theorem size_map {w:World} {P:Program} {k:TypeId} {R:Value->Option (DataW Unit×List MemPlace)} {b n:Nat} {D:DataW Unit} (h:w.ownsMap P k R b n D):Maps.size D<=n:=by obtain⟨es,clock,hb,F,hn,rfl⟩:=h;simpa [Maps.size,length_sorted]using hn
theorem Zwn {w:World} {base e k:Nat} {v:Value} {n:Nat} {xs:List Value} (h:w.ownsRow base e k v n xs):w.ownsRow 0 e k v n xs :=
  ⟨h.1,h.2.imp id fun ⟨g,cap,cur,a,b,r⟩=>⟨g,cap,cur,a,Nat.zero_le _,r⟩⟩
theorem Zsb (w:World):Z101 w (.slice none 0 0) []:=⟨by simp,rfl,.inl ⟨rfl,rfl⟩⟩
theorem Zsc (ts:List Rd):∀r∈ts.map encY,rowOk kY r:=by intro r hr;obtain⟨x,-,rfl⟩:=List.mem_map.1 hr;exact⟨⟨_,rfl⟩,⟨_,rfl⟩,trivial⟩
set_option maxRecDepth 100000 in
theorem Z10g (w:World) (a:Option Addr) (cap:Nat) (l:List Wt) (n:List UInt8) (hv:Z26 w (.slice a l.length cap) l) (hs:Z2i l) (hn:n.length<1000000000) (hl:l.length<1000000) (hq:∀x∈l,0<=x.2.2/\x.2.2<=1) : Calls Tryz.prog 104 #[.slice a l.length cap,.string ⟨n.toArray⟩] w fun e w'=>∃v' rs,e=.returned v'/\Z101 w' v' rs/\newW w.heap.size v'/\okY n rs l/\Mod [] w w':=by
  have hv0:=hv;obtain⟨hrow,a',cap',e1,⟨hc1,hc2⟩,hcells⟩:=hv;simp only[Value.slice.injEq,qy3]at e1;obtain⟨rfl,-,rfl⟩:=e1;have hmm:=@run_makeMap Tryz.prog;go_enter Tryz.func104,Tryz.ntmps104
  go_wp2
  go_loopw [14] (fun i wr=>∃(k:Nat) (D:DataW Unit),k<=l.length/\i=.int .i64 k/\wr.ownsMap Tryz.prog 9 (plainElem Tryz.prog 3) w.heap.size k D/\Z83 n (l.take k) D/\Below w.heap.size w wr)
    (fun i _=>l.length - (intOf i).toNat)
  case atStart=>exact⟨0,_,Nat.zero_le _,rfl,World.ownsMap_made _ _ _ _,Zok n,(Below.refl _ _).alloc (Nat.le_refl _) _⟩
  case round =>
    obtain⟨k,D,hk,rfl,hown,hD,hnx⟩:=hrel;by_cases hlt:k<l.length
    . obtain⟨ad,rfl,hcell⟩:=hcells (fun e=>by rw[List.map_eq_nil_iff]at e;rw[e]at hlt;exact Nat.not_lt_zero _ hlt);obtain⟨q0,q1,q2⟩:=Zom hv0 hlt;have h0:=Zax q0 hnx;have h1:=Zax q1 hnx;have h2:=Zax q2 hnx;have hx1:=hs _ (memW l k hlt);have htk:=Zkf l k hlt;have hq1:=hq _ (memW l k hlt);generalize l.getD k wD_V=x at h0 h1 h2 hx1 htk hq1
      rw[Addr.add_succ']at h1 h2;clear q0 q1 q2;generalize hA:ad.add (k*3)=A at h0 h1 h2
      have hkey:keyOf Tryz.prog 9 (.string ⟨x.1.toArray⟩)=some (.string x.1):=by have:=WideMaps.keyOf_string_mk Tryz.underlying9 (s:=⟨x.1.toArray⟩) (by have:=hx1.1;simp[ByteArray.size,maxLen];omega);simpa using this
      have hc:=Zzn (wr.alloc (.cells #[.string ⟨x.1.toArray⟩,.string ⟨x.2.1.toArray⟩,.int .i64 x.2.2] 90)) x.2.1 n (by have:=hx1.2;omega) (by omega);go_wp2_with (first
        | (go_at_call 181;refine hc.mono ?_;rintro e w2 ⟨rfl,gm⟩
           have g1:=Ziy gm;have hown2:=(hown.alloc (.cells #[.string ⟨x.1.toArray⟩,.string ⟨x.2.1.toArray⟩,.int .i64 x.2.2] 90)).kept g1 (by simp);have hnx2:=(hnx.alloc hnx.size (.cells #[.string ⟨x.1.toArray⟩,.string ⟨x.2.1.toArray⟩,.int .i64 x.2.2] 90)).grown g1 (by have:=hnx.size;simp;omega) (fun j hj=>by cases hj);have hbl:=g1.block wr.heap.size (by simp) (by simp);simp only[Zdv]at hbl;have c0:=Zh2 hbl 0;have c1:=Zh2 hbl 1;have c2:=Zh2 hbl 2)
        | (at_lookup;refine wpList_lookup_own_int _ rfl _ _ 202 rfl 9 3 .i64 lawS Tryz.underlying202 Tryz.underlying3 (Z14q _) w.heap.size k _ rfl hown2 _ _ rfl hkey ?_;intro c hat hwc)
        | (at_mapUpdate;refine wpList_mapUpdate_own _ rfl _ _ _ 202 rfl 9 3 lawS Tryz.underlying202 _ w.heap.size k _ rfl hown2 (by unfold maxLen;omega) _ _ _ rfl rfl hkey _ [] (plainElem_int Tryz.underlying3 (Z12r hwc hq1.1 hq1.2)) ?_;intro w3 hown3 hgrow3)
        | go_in)
      . have hf:forW n x=true:=by assumption
        have hg:Z83 n (l.take (k+1)) (D.put (.string x.1) (.lit (.int .i64 (max c x.2.2)))):=by rw[htk];exact Zol hD hf (by rw[Zs8 hD hat])
        have hb3:=hnx2.grown hgrow3 hnx2.size (fun j hj=>by cases hj;exact Nat.le_refl _);go_roundw
        case rel=>exact⟨k+1,_,by omega,by go_num,hown3,hg,hb3⟩
        case measure=>simp[intOf];omega
      . have hf:¬forW n x=true:=by rw[forW];simp_all
        have hg:Z83 n (l.take (k+1)) D:=by rw[htk];exact Zkk hD hf
        go_roundw
        case rel=>exact⟨k+1,_,by omega,by go_num,hown2.mono (by omega),hg,hnx2⟩
        case measure=>simp[intOf];omega
    . have hke:k=l.length:=by omega
      subst hke;rw[List.take_length]at hD;go_wp2_with (first
        | (at_range;refine wpList_range_own _ rfl _ 202 rfl 9 3 lawS Tryz.underlying202 _ w.heap.size l.length _ rfl hown ?_;intro w0 hrg0 hg0 hs0)
        | go_in)
      go_frame
      obtain⟨i0,hi,hz0,hz1,hz2⟩:=info_parts Z10d;have hb0:=hnx.grown hg0 hnx.size (fun j hj=>by cases hj);have hr0:w.heap.size<=wr.heap.size:=hnx.size;have hszD:Maps.size D<=l.length:=size_map hown;generalize wr.heap.size=r0 at hrg0 hr0 ⊢
      clear hg0 hs0 hown hnx;go_loopw [8] (fun v wq=>∃(left:Lit->Bool) (cnt:Nat) (ss:List Rd),wq.ranges Tryz.prog 9 (plainElem Tryz.prog 3) w.heap.size r0 l.length D left cnt/\ss.length+cnt<=Maps.size D /\
          wq.ownsRow (w.heap.size+1) 71 2 v ss.length (ss.map encY).flatten/\Zsa D left ss/\Below w.heap.size w wq)
        (fun _ wq=>wq.rangeLeft w.heap.size r0)
      case atStart=>exact⟨_,_,[],hrg0,by simp,⟨rfl,.inl ⟨rfl,rfl⟩⟩,Zkl D,hb0⟩
      case round =>
        obtain⟨left,cnt,ss,hrg,hcs,hrow,hC,hnq⟩:=hrel;go_wp2_with (first
          | (at_next;refine wpList_next_ranges _ rfl _ rfl 9 lawS (plainElem Tryz.prog 3) Go.Proofs.encStr (Value.int .i64) (fun key kl hk=>by obtain⟨x,hx,_⟩:=Maps.keyOf_str Tryz.underlying9 hk;exact⟨x,hx⟩) (fun v y hv=>by obtain⟨c,rfl,_⟩:=plainElem_int_inv Tryz.underlying3 hv;exact⟨c,rfl⟩) w.heap.size r0 l.length _ _ _ rfl hrg ?_ ?_)
          | go_in)
        . intro hc00 hl0;rcases hrow.2 with ⟨hnil,hz⟩|⟨g,cap2,cur,hvs,hbase,hb,h1,h2,h3,h4⟩
          . have hss:ss=[]:=List.length_eq_zero_iff.1 hz;subst hss;subst hnil;go_wp2_with (go_at_call 182;refine(Zwm _).mono ?_;rintro e w' ⟨rfl,gm⟩)
            go_ret
            refine⟨.slice none 0 0,[],rfl,Zsb _,Zh1 _,Ziz hD hC hl0 (List.Perm.refl _) (fun i j hij hj=>absurd hj (by simp)),?_⟩;exact Mod.of_below (hnq.grown (Ziy gm) hnq.size (fun j hj=>by cases hj))
          . subst hvs;have hgl:=(Array.getElem?_eq_some_iff.1 hb).1;have hlen:ss.length<4611686018427387904:=by omega
            have eg:∀args w,(callFunc 183 args).run Tryz.prog w=.ok (.enter 183 args) w:=enters_of Tryz.func183 (by kernel_rfl) rfl;have hc:Calls Tryz.prog 182 #[.slice (some ⟨g,0,none⟩) ss.length cap2,.func (.func 183) #[] #[]] wr _ :=
              AnyQ.slices_SortFunc Tryz.sortR 2 Tryz.isAgg71 Tryz.sizeOf71 encY (fun _=>rfl) Zwl cmpY swoY 183 #[] g 0 cap2 ss.toArray wr eg (fun _ _ _ _ x y=>Z14r x y _) (Zds (enc:=encY) (k:=2) (ds:=ss) (fun _=>rfl) (by decide) hb h4) hgl hlen
            go_wp2_with (go_at_call 182;refine hc.mono ?_;rintro e w' ⟨rfl,d',nn,os,hp,hso,rfl⟩)
            go_ret
            obtain⟨ts⟩:=d';have hsz:ts.length=ss.length:=hp.1;have hpm:ts.Perm ss:=by
              have:=hp.2.2;simp only[List.size_toArray]at this;rw[<- hsz]at this;have e:ss.take ts.length=ss:=by rw[hsz,List.take_length]
              simpa [e]using this
            refine⟨_,ts,rfl,⟨Zsc ts,Zwn (base:=w.heap.size+1) ?_⟩,fun k hk=>?_,Ziz hD hC hl0 hpm (fun i j hij hj=>?_),?_⟩
            . have:=Zdu (w:=wr) (n:=nn) (os:=os) (enc:=encY) (k:=2) (ts:=ts) (fun _=>rfl) (by decide) hbase hb (by omega) h2 h3;rw[qy3,<- hsz];exact this
            . have:g=k:=Option.some.inj hk;omega
            . have:=hso i j (Nat.zero_le _) hij (by show j<ss.length;omega);rw[Za2,getElem!_pos _ j (by simpa using hj),getElem!_pos _ i (by simp;omega)]at this;exact this
            . exact Mod.of_below (hnq.grown (Zdt _) hnq.size (fun j hj=>by cases hj;exact Nat.le_of_succ_le hbase))
        . intro x c kl yd yp w2 cnt2 hkey hlk hv hat hrg2 hlt2 hg2 hs2 hen;obtain⟨x',ex,rfl,_⟩:=Maps.keyOf_str Tryz.underlying9 hkey;obtain rfl:x=x':=encStr_inj ex;have hrow2:=hrow.kept hg2 (Or.inr (row_ne_iter hrow hrg).symm);clear hs2;obtain⟨c',ec,e2,hwc⟩:=plainElem_int_inv Tryz.underlying3 hv;obtain rfl:c=c':=by simpa using ec
          obtain rfl:yd=.lit (.int .i64 c):=(Prod.mk.inj e2).1;clear hv ec e2;go_wp2_with (first
            | (at_builtin;refine wpList_append_own _ rfl _ _ 64 rfl (w.heap.size+1) 71 i0 (.agg #[.string ⟨#[]⟩,.int .i64 0]) 2 24 Tryz.underlying64 hi hz0 hz1 hz2 rfl (by decide) _ _ _ rfl (hrow2.alloc _) ⟨w2.heap.size,0,none⟩ 1 1 [Go.Proofs.encStr x,.int .i64 c] rfl rfl (Zs9 _ _ _ _) (by simp[Value.oneCell',Go.Proofs.encStr]) (by unfold maxLen;omega) (by omega) (by have:=hrg2.owns.lt;simp;omega) ?_;intro v' w3 hown' hg3 hnil3;go_frame)
            | go_in)
          have hrg3:=(hrg2.alloc _).kept hg3 (row_ne_low hrow2 (Nat.lt_succ_self _)) (row_ne_iter hrow2 hrg2);have hb3:=((hnq.grown hg2 hnq.size (fun j hj=>by cases hj;exact hr0)).alloc (by have:=hnq.size;have:=hg2.size;omega) _).grown hg3 (by have:=hnq.size;have:=hg2.size;simp;omega) (fun j hj=>Nat.le_of_succ_le (hrow2.lt j hj).1);go_roundw
          case rel =>
            exact⟨_,cnt2,ss++[(x,c)],hrg3,by simp;omega,by simpa [encY,Go.Proofs.encStr]using hown',Zon hC hlk hat,hb3⟩
          case measure=>rw[hrg3.left_eq,hrg.left_eq];exact hlt2
end Go.Proofs.YtkhakgbnfapifaaGreatDoor
namespace Go.Proofs.YtkhakgbnfapifaaGreatDoor
open Go Go.Sx
theorem Z12s {x:Wt} (h:Z2n x=0):cliB x.1=true/\chkT x.2.1 true=0/\0<=x.2.2/\x.2.2<=1:=by
 unfold Z2n at h;split at h
 ·rename_i h1;unfold askE at h;simp only at h;split at h
  ·rename_i h2;split at h
   ·rename_i h3;exact⟨h1,h2,h3⟩
   ·exact absurd h (by decide)
  ·rename_i h2;exact absurd h h2
 ·exact absurd h (by decide)
theorem Zmc {l:List Wt} (h:Zf l=0):∀x∈l,cliB x.1=true/\chkT x.2.1 true=0/\0<=x.2.2/\x.2.2<=1:=fun x hx=>Z12s ((Z18.1 h).2.1 x hx)
theorem c_Of (w:World) (v:Value) (l:List Wt) (n:List UInt8) (hv:Z26 w v l) (hs:Z2i l) (hn:n.length<1000000000) (h:Zf l=0):Calls Tryz.prog 104 #[sc1 v,.string ⟨n.toArray⟩] w fun e w'=>∃v',e=.returned (sc1 v')/\Z101 w' v' (rdOf n l)/\newW w.heap.size v'/\Mod [] w w':=by
 rw[hv.sc1];obtain⟨k1,k2,k3⟩:=Z18.1 h;have hv0:=hv;obtain⟨-,a,cap,rfl,-,-⟩:=hv;rw[qy3]at hv0 ⊢;refine(Z10g w a cap l n hv0 hs hn (by omega) fun x hx=>(Zmc h x hx).2.2).mono ?_;rintro e w' ⟨v',rs,rfl,g1,g2,g3,g4⟩;have e1:rs=rdOf n l:=by obtain⟨a1,a2⟩:=Zrx (n:=n) (Zfj k3);exact Zfi g3.1 a1 fun x=>by rw[show x=(x.1,x.2) from rfl,g3.2,a2]
 subst e1;exact⟨v',by rw[g1.reads.sc1],g1,g2,g4⟩
def wA:List Wt:=[([97,110,110],[35],0),([97,110,110],[97,47,43],1),([98,111,98],[99],0)]
theorem Z10h (w:World):Calls Tryz.prog 99 #[] w fun e w'=>∃v',e=.returned (sc1 v')/\Z26 w' v' wA/\newW w.heap.size v'/\Mod [] w w':=by refine Z1 (Z7 (ρ:=[]) sxE_ok Tryz.func99 Z6o rfl rfl rfl ?_) rfl;simp only[Tree.goal,X.P,X.ev,SV.ev,CV.ev,Sc.ev,qz,QA,QB,QC,QD,QE,QF,QG,QH,QI,QJ,QK,QL,QM,Nat.reduceAdd];intro v w' hr;exact⟨v,rfl,(hr.at_ 0 rfl).reads,hr.fresh 0 rfl,hr.mod⟩
end Go.Proofs.YtkhakgbnfapifaaGreatDoor
namespace Go.Proofs.YtkhakgbnfapifaaGreatDoor
open Go.Sx
abbrev Opt:=Int×List UInt8
def encO (o:Opt):List Value:=[.int .i64 o.1,.string ⟨o.2.toArray⟩]
abbrev oD:Opt:=(0,[])
theorem Z1e (os:List Opt) (i:Nat):Value.gI (((os.map encO).getD i []).getD 0 undef)=(os.getD i oD).1:=by simp only[qy1,List.getElem?_map];cases os[i]?<;>rfl
theorem Z1f (os:List Opt) (i:Nat):Value.gS (((os.map encO).getD i []).getD 1 undef)=(os.getD i oD).2:=by simp only[qy1,List.getElem?_map];cases os[i]?<;>simp[encO,Value.gS,undef]
theorem Z12t (os:List Opt) (i:Nat) (h:i<os.length):os.drop i=os.getD i oD::os.drop (i+1):=by rw[List.drop_eq_getElem_cons h,qy1,qy7 h];rfl
structure Msg where
 kind:Int
 code:Int
 id:Int
 tok:List UInt8
 opts:List Opt
 pay:List UInt8
abbrev mNil:Msg:=⟨0,0,0,[],[],[]⟩
def mV (m:Msg) (v:Value):Value:=.agg #[.int .i64 m.kind,.int .i64 m.code,.int .i64 m.id,.string ⟨m.tok.toArray⟩,v,.string ⟨m.pay.toArray⟩]
abbrev Z22 (w:World) (v:Value) (os:List Opt):Prop:=reads w v [.int .i64,.str] (os.map encO)
def optE:Int->List Opt->Int
 | _,[]=>0
 | was,o::l=>if 0<=o.1/\o.1<=65535 then (if o.1<was then 4 else if 60<(o.2.length:Int) then 2 else optE o.1 l) else 3
def chk (m:Msg):Int :=
 if 0<=m.kind/\m.kind<=3 then
  if 0<=m.code/\m.code<=255/\0<=m.id/\m.id<=65535 then
   if 8<(m.tok.length:Int)\/12<(m.opts.length:Int)\/200<(m.pay.length:Int) then 2
   else if optE 0 m.opts≠0 then optE 0 m.opts
   else if m.code=0/\(m.tok≠[]\/m.pay≠[]\/m.opts≠[]) then 1 else 0
  else 3
 else 7
theorem Zwo {m:Msg} (h:¬(0<=m.kind/\m.kind<=3)):chk m=7:=if_neg h
theorem Zsd {m:Msg} (h:0<=m.kind/\m.kind<=3) (h1:¬(0<=m.code/\m.code<=255/\0<=m.id/\m.id<=65535)):chk m=3:=by rw[chk,if_pos h,if_neg h1]
theorem Zwp {m:Msg} (h:0<=m.kind/\m.kind<=3) (h1:0<=m.code/\m.code<=255/\0<=m.id/\m.id<=65535) (h2:8<(m.tok.length:Int)\/12<(m.opts.length:Int)\/200<(m.pay.length:Int)):chk m=2:=by rw[chk,if_pos h,if_pos h1,if_pos h2]
theorem Zwq {m:Msg} (h:0<=m.kind/\m.kind<=3) (h1:0<=m.code/\m.code<=255/\0<=m.id/\m.id<=65535) (h2:¬(8<(m.tok.length:Int)\/12<(m.opts.length:Int)\/200<(m.pay.length:Int))) : chk m=if optE 0 m.opts≠0 then optE 0 m.opts else if m.code=0/\(m.tok≠[]\/m.pay≠[]\/m.opts≠[]) then 1 else 0:=by rw[chk,if_pos h,if_pos h1,if_neg h2]
theorem Zbf {m:Msg}:chk m=0↔(0<=m.kind/\m.kind<=3)/\(0<=m.code/\m.code<=255/\0<=m.id/\m.id<=65535)/\(m.tok.length<=8/\m.opts.length<=12/\m.pay.length<=200)/\optE 0 m.opts=0/\(m.code=0->m.tok=[]/\m.pay=[]/\m.opts=[]):=by
 unfold chk;constructor
 ·intro h;split at h
  ·split at h
   ·split at h
    ·exact absurd h (by decide)
    ·split at h
     ·contradiction
     ·split at h
      ·exact absurd h (by decide)
      ·rename_i h1 h2 h3 h4 h5;exact⟨h1,h2,by omega,qy9.1 h4,fun h6=>⟨Classical.byContradiction fun h7=>h5 ⟨h6,.inl h7⟩,Classical.byContradiction fun h7=>h5 ⟨h6,.inr (.inl h7)⟩,Classical.byContradiction fun h7=>h5 ⟨h6,.inr (.inr h7)⟩⟩⟩
   ·exact absurd h (by decide)
  ·exact absurd h (by decide)
 ·rintro⟨h1,h2,h3,h4,h5⟩;rw[if_pos h1,if_pos h2,if_neg (by omega),if_neg (fun h=>h h4),if_neg];rintro⟨h6,h7⟩;obtain⟨a,b,c⟩:=h5 h6;rcases h7 with h|h|h
  ·exact h a
  ·exact h b
  ·exact h c
theorem Zch (w:World) (n a b:Int):Calls Tryz.prog 166 #[.int .i64 n,.int .i64 a,.int .i64 b] w fun e w'=>e=.returned (.bool (decide (a<=n/\n<=b)))/\Mod [] w w':=by refine Z1 (Z7 (ρ:=[.i n,.i a,.i b]) sxE_ok Tryz.func166 Z8e rfl rfl rfl ?_) rfl;simp only[Tree.goal,X.P,X.ev,SV.ev,CV.ev,Sc.ev,qz,QA,QB,QC,QD,QE,QF,QG,QH,QI,QJ,QK,QL,QM,Nat.reduceAdd];exact fun w' hr=>⟨by simp,hr.mod⟩
theorem Zse (w:World) (v:Value) (os:List Opt) (hv:Z22 w v os) (hl:os.length<1099511627776):Calls Tryz.prog 167 #[sc1 v] w fun e w'=>e=.returned (.int .i64 (optE 0 os))/\Mod [] w w':=by
 refine Z1 (Z3 (ρ:=[.v v,.r (os.map encO)]) sxE_ok Tryz.func167 Z7u rfl rfl (Rel.start2 (by simp[Ent.holds,Ent.wr,hv,X.ev])) rfl rfl ?_) rfl;simp only[Tree.goal,X.P,X.ev,SV.ev,CV.ev,Sc.ev,qz,QA,QB,QC,QD,QE,QF,QG,QH,QI,QJ,QK,QL,QM,Nat.reduceAdd,qy3];refine⟨fun vs=>∃(i:Nat) (x:V) (was:Int),vs=[x,.i was,.i i]/\i<=os.length/\optE was (os.drop i)=optE 0 os,fun vs=>(os.length - (vs.getD 2 (.i 0)).toI).toNat,⟨0,_,0,rfl,by omega,rfl⟩,?_⟩;rintro _ - ⟨i,x,was,rfl,hi,hg⟩;simp only[Tree.goal,X.P,X.ev,SV.ev,CV.ev,Sc.ev,qz,QA,QB,QC,QD,QE,QF,QG,QH,QI,QJ,QK,QL,QM,Nat.reduceAdd,qy3,qy4,Z1e,Z1f];refine⟨fun h1=>?_,fun h1 w' hr=>⟨?_,hr.mod⟩⟩
 ·rw[Z12t os i (by omega)]at hg;generalize os.getD i oD=o at hg ⊢
  (repeat refine⟨by omega,?_⟩)
  intro b;refine⟨[.b (decide (0<=o.1/\o.1<=65535))],rfl,fun _ w' _=>Zch w' _ _ _,?_⟩;simp only[Tree.goal,X.P,X.ev,SV.ev,CV.ev,Sc.ev,qz,QA,QB,QC,QD,QE,QF,QG,QH,QI,QJ,QK,QL,QM,Nat.reduceAdd,decide_eq_true_eq];simp only[optE]at hg;refine⟨fun h2 w' hr=>⟨by rw[<- hg,if_neg h2],hr.mod⟩,fun h2=>?_⟩;rw[if_pos (qy9.1 h2)]at hg;refine⟨fun h3 w' hr=>⟨by rw[<- hg,if_pos h3],hr.mod⟩,fun h3=>?_⟩;rw[if_neg h3]at hg;refine⟨fun h4 w' hr=>⟨by rw[<- hg,if_pos h4],hr.mod⟩,fun h4=>?_⟩;rw[if_neg h4]at hg;exact⟨by omega,by omega,⟨i+1,_,o.1,rfl,by omega,hg⟩,by omega⟩
 ·have:i=os.length:=by omega
  subst this;rw[List.drop_length]at hg;rw[<- hg];rfl
theorem Zsf (w:World) (m:Msg) (v:Value) (hv:Z22 w v m.opts) (hl:m.opts.length<1099511627776) (ht:m.tok.length<1099511627776) (hp:m.pay.length<1099511627776) : Calls Tryz.prog 85 #[mV m (sc1 v)] w fun e w'=>e=.returned (.int .i64 (chk m))/\Mod [] w w':=by
 refine Z1 (Z3 (ρ:=[.i m.kind,.i m.code,.i m.id,.s m.tok,.v v,.r (m.opts.map encO),.s m.pay]) sxE_ok Tryz.func85 Z9h rfl rfl (Rel.start2 (by simp[Ent.holds,Ent.wr,hv,X.ev])) rfl rfl ?_) rfl;simp only[Tree.goal,X.P,X.ev,SV.ev,CV.ev,Sc.ev,qz,QA,QB,QC,QD,QE,QF,QG,QH,QI,QJ,QK,QL,QM,Nat.reduceAdd,qy3];intro b;refine⟨[.b (decide (0<=m.kind/\m.kind<=3))],rfl,fun _ w' _=>Zch w' _ _ _,?_⟩;simp only[Tree.goal,X.P,X.ev,SV.ev,CV.ev,Sc.ev,qz,QA,QB,QC,QD,QE,QF,QG,QH,QI,QJ,QK,QL,QM,Nat.reduceAdd,decide_eq_true_eq,qy3];refine⟨fun h w' hr=>⟨by rw[Zwo h],hr.mod⟩,fun h=>?_⟩;replace h:=qy9.1 h;refine⟨[.b (decide (0<=m.code/\m.code<=255))],rfl,fun _ w' _=>Zch w' _ _ _,?_⟩;simp only[Tree.goal,X.P,X.ev,SV.ev,CV.ev,Sc.ev,qz,QA,QB,QC,QD,QE,QF,QG,QH,QI,QJ,QK,QL,QM,Nat.reduceAdd,decide_eq_true_eq,qy3];refine⟨[.b (decide (0<=m.id/\m.id<=65535))],rfl,fun _ w' _=>Zch w' _ _ _,?_⟩;simp only[Tree.goal,X.P,X.ev,SV.ev,CV.ev,Sc.ev,qz,QA,QB,QC,QD,QE,QF,QG,QH,QI,QJ,QK,QL,QM,Nat.reduceAdd,decide_eq_true_eq,qy3];refine⟨fun h1 w' hr=>⟨by rw[Zsd h (by omega)],hr.mod⟩,fun h1=>?_⟩;refine⟨fun h2 w' hr=>⟨by rw[Zwp h (by omega) (by omega)],hr.mod⟩,fun h2=>?_⟩;rw[Zwq h (by omega) (by omega)];refine⟨[.i (optE 0 m.opts)],rfl,fun _ w' hr=>Zse w' v m.opts (hr.at_ 1 rfl) hl,?_⟩;simp only[Tree.goal,X.P,X.ev,SV.ev,CV.ev,Sc.ev,qz,QA,QB,QC,QD,QE,QF,QG,QH,QI,QJ,QK,QL,QM,Nat.reduceAdd,decide_eq_true_eq,qy3];refine⟨fun h3 w' hr=>⟨by rw[if_pos h3],hr.mod⟩,fun h3=>?_⟩;rw[if_neg h3];refine⟨by omega,fun h4 w' hr=>⟨?_,hr.mod⟩,fun h4 w' hr=>⟨?_,hr.mod⟩⟩
 ·rw[if_pos];rcases h4 with ⟨h5,h6⟩|⟨h5,h6⟩
  ·refine⟨h5,?_⟩;simp only[List.append_eq_nil_iff]at h6;by_cases h7:m.tok=[]
   ·exact .inr (.inl fun h8=>h6 ⟨h7,h8⟩)
   ·exact .inl h7
  ·exact⟨h5,.inr (.inr (by intro h8;rw[h8]at h6;simp at h6))⟩
 ·rw[if_neg];rintro⟨h5,h6⟩;apply h4;rcases h6 with h6|h6|h6
  ·exact .inl ⟨h5,fun h=>h6 (List.append_eq_nil_iff.1 h).1⟩
  ·exact .inl ⟨h5,fun h=>h6 (List.append_eq_nil_iff.1 h).2⟩
  ·exact .inr ⟨h5,by have:=List.length_pos_iff.2 h6;omega⟩
def Z3d:List (List UInt8)->List UInt8
 | []=>[]
 | [x]=>x
 | x::y::xs=>x++47::Z3d (y::xs)
theorem Zoo (c:UInt8) (x:List UInt8) (xs:List (List UInt8)):Z3d ((c::x)::xs)=c::Z3d (x::xs):=by cases xs<;>simp[Z3d]
theorem Zsg:∀s:List UInt8,Z3d (lev s)=s:=by
 intro s;induction s with
 | nil=>rfl
 | cons c l ih =>
  obtain⟨y,ys,e⟩:=Zdg l;by_cases hc:c=47
  ·subst hc;rw[Z4e,e];rw[e]at ih;simp[Z3d,ih]
  ·rw[Z34 _ hc,e];rw[e]at ih;simp only[glue,List.cons_append,List.nil_append];rw[Zoo,ih]
theorem Z73 {s:List UInt8} {f:Bool}:chkT s f=0↔s≠[]/\(s.length<=60/\(lev s).length<=6)/\Z1w s=true/\badL f (lev s)=false:=by
 unfold chkT;by_cases h1:s=[]
 ·rw[if_pos h1];simp[h1]
 ·rw[if_neg h1];by_cases h2:60<(s.length:Int)\/6<((lev s).length:Int)
  ·rw[if_pos h2];refine⟨fun h=>absurd h (by decide),fun h=>by omega⟩
  ·rw[if_neg h2];by_cases h3:Z1w s=true
   ·rw[if_pos h3];cases h4:badL f (lev s)
    ·exact⟨fun _=>⟨h1,by omega,h3,rfl⟩,fun _=>rfl⟩
    ·exact⟨fun h=>absurd h (by decide),fun h=>absurd h.2.2.2 (by simp)⟩
   ·rw[if_neg h3];exact⟨fun h=>absurd h (by decide),fun h=>absurd h.2.2.1 h3⟩
end Go.Proofs.YtkhakgbnfapifaaGreatDoor
