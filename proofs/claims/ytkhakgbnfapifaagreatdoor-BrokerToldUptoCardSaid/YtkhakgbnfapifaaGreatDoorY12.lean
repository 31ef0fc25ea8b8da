/-
  Texts of mine, one behind the other. By an AI agent.
-/
import Derived.Test.YtkhakgbnfapifaaGreatDoorY10
import Derived.Test.YtkhakgbnfapifaaGreatDoorY06
import Derived.Test.YtkhakgbnfapifaaGreatDoorY11
import Derived.Shelf.Strings.Search3
import Derived.Shelf.Strings.Trim
import Derived.Shelf.Strings.OnBuilder
import Derived.Test.YtkhakgbnfapifaaGreatDoorProg
import Derived.Shelf.RegionOpenPlain
import Derived.Lib.Strings
import Derived.Lib.Slices
import Derived.Lib.Walk
import Derived.Lib.Builder
import Derived.Lib.AppendStr
import Derived.Lib.UnsafeStr
import Derived.WalkKit
import Derived.Test.YtkhakgbnfapifaaGreatDoorY05
import Derived.Test.YtkhakgbnfapifaaGreatDoorY09
set_option linter.unusedSimpArgs false
set_option linter.unusedVariables false
set_option maxHeartbeats 20000000
namespace Go.Proofs.YtkhakgbnfapifaaGreatDoor
open Go Go.Sx Go.Shelf Go.RowKit Go.Lib
set_option maxRecDepth 100000 in
theorem Zqj (w:World) (b:Option Addr) (n c i:Nat) (vb:Option Addr) (vc:Nat) (hi:i<=n) (hc:n<=c) (hb:b=none->c=0) : Calls Tryz.prog 192 #[.slice b n c,.int .i64 i,.slice vb 0 vc] w fun e w'=>e=.returned (.slice b n c)/\w'=w:=by
  go_enter Tryz.func192,Tryz.ntmps192
  go_wp2
  all_goals (go_ret;exact⟨rfl,rfl⟩)
set_option maxRecDepth 100000 in
theorem Zup (w:World) (b:Option Addr) (n c:Nat) (vb:Option Addr) (m vc:Nat) (hm:0<m) (hc:n<=c) (hb:b=none->c=0) (v':Value) (w':World) (hrun:∀ty,(Builtin.append_ #[48,48] ty #[.slice b n c,.slice vb m vc]).run Tryz.prog w=.ok v' w') : Calls Tryz.prog 192 #[.slice b n c,.int .i64 n,.slice vb m vc] w fun e w1=>e=.returned v'/\w1=w':=by
  have hz1:¬((m:Int)=0):=by omega
  go_enter Tryz.func192,Tryz.ntmps192
  go_wp2_with (at_builtin;refine Lib.wpList_append_run _ rfl _ _ _ _ rfl _ _ rfl rfl _ _ (hrun _) ?_)
  all_goals (go_ret;exact⟨rfl,rfl⟩)
set_option maxRecDepth 100000 in
theorem Zmt (w:World) (g n c i vb m vc:Nat) (cs vs:List Value) (cur vcur cur2:Array Value) (hi:i<n) (hm:0<m) (hroom:n+m<=c) (hc63:c<=9223372036854775807) (hvb:vb≠g) (hg:w.heap[g]?=some (.cells cur 127 (0,0))) (hcs:cur.size=c*2) (hv:w.heap[vb]?=some (.cells vcur 127 (0,0))) (hvl:m*2<=vcur.size) (e1:cs=(cur.toList.drop (i*2)).take ((n - i)*2)) (e2:vs=vcur.toList.take (m*2)) (h1c:∀v∈cs,v.oneCell'=true) (h1v:∀v∈vs,v.oneCell'=true) (e3:cur2.toList=cur.toList.take (i*2)++vs++cs++cur.toList.drop ((n+m)*2)) : Calls Tryz.prog 192 #[.slice (some ⟨g,0,none⟩) n c,.int .i64 i,.slice (some ⟨vb,0,none⟩) m vc] w fun e w'=>e=.returned (.slice (some ⟨g,0,none⟩) (n+m) c)/\w'=w.drew.setRow g cur2:=by
  have hz1:¬((m:Int)=0):=by omega
  have hz2:¬((i:Int)=(n:Int)):=by omega
  have hw1:IntKind.i64.wrap ((i:Int)+(m:Int))=(i:Int)+(m:Int):=by rw[IntKind.wrap_i64];omega
  have hw2:IntKind.i64.wrap ((n:Int)+(m:Int))=(n:Int)+(m:Int):=by rw[IntKind.wrap_i64];omega
  have hb1:(0:Int)<=(i:Int)+(m:Int):=by omega
  have hin:i<=n:=by omega
  have htn:((i:Int)+(m:Int)).toNat=i+m:=by omega
  have htn2:((n:Int)+(m:Int)).toNat=n+m:=by omega
  have hb2:¬(c=i+m):=by omega
  have hb3:(i:Int)<=(n:Int)+(m:Int):=by omega
  have hb4:¬(c=i):=by omega
  have hsz:(Tryz.prog.info? 127).map (·.size)=some 2:=by kernel_rfl
  have hso:∀w,(Go.sizeOf 127).run Tryz.prog w=.ok 2 w:=fun w=>by
    cases hq:Tryz.prog.info? 127 with
    | none=>rw[hq]at hsz;simp at hsz
    | some i=>rw[hq]at hsz;simp at hsz;simp[sizeOf,typeInfo,hq,hsz]
  have hu:=Tryz.underlying48;have hov:∀o lb cb,(callFunc 245 #[.slice (some ⟨vb,0,none⟩) m vc,.slice (some ⟨g,o,none⟩) lb cb]).run Tryz.prog w=.ok (.value (.bool false)) w:=fun o lb cb=>by
    rw[run_callFunc_extern Tryz.func245 (by kernel_rfl) (by kernel_rfl) (by kernel_rfl) (e:=Extern.SlicesOverlaps.overlaps #[48,48] #[4]) (by kernel_rfl),
      Lib.run_overlaps_apart w 48 4 127 hu 2 hso ⟨vb,0,none⟩ ⟨g,o,none⟩ m vc lb cb hvb 127 127 vcur.size cur.size (by simp[World.shape?,hv]) (by simp[World.shape?,hg]) (by omega) (by simp[World.frozen?,hv]) (by simp[World.frozen?,hv])]
    rfl
  have hcl:cs.length=(n - i)*2:=by rw[e1];simp;omega
  have hvl2:vs.length=m*2:=by rw[e2];simp;omega
  have hgd:w.drew.heap[g]?=some (.cells cur 127 (0,0)):=hg;have hcp1:∀ty dc sc,(Builtin.copy_ #[48,48] ty #[.slice (some ⟨g,(i+m)*2,none⟩) (n+m - (i+m)) dc,.slice (some ⟨g,i*2,none⟩) (n+m - i) sc]).run Tryz.prog w.drew=.ok (goInt ((n - i:Nat):Int)) (w.drew.setRow g (cur.toList.take ((i+m)*2)++cs++cur.toList.drop ((i+m)*2+cs.length)).toArray):=fun ty dc sc =>
    Zc (P:=Tryz.prog) w.drew 48 48 ty 127 2 g ((i+m)*2) (n+m - (i+m)) dc ⟨g,i*2,none⟩ (n+m - i) sc cur 127 cs (n - i) (by omega) hu hsz hgd hcl (fun j v hj=>by
      rw[e1,List.getElem?_take]at hj;split at hj
      . rw[Addr.add_lit];simp only[World.cell?,hgd];simpa using hj
      . cases hj) (by rw[hcl];omega) h1c
  obtain⟨cur1,hcur1⟩:∃cur1:Array Value,cur1=(cur.toList.take ((i+m)*2)++cs++cur.toList.drop ((i+m)*2+cs.length)).toArray:=⟨_,rfl⟩
  rw[<- hcur1]at hcp1;have hs1:cur1.size=cur.size:=by rw[hcur1];simp only[List.size_toArray,qy11,List.length_take,List.length_drop,Array.length_toList,hcl];omega
  have hcp2:∀(W:World),W.heap=(w.drew.setRow g cur1).heap->∀ty dc,(Builtin.copy_ #[48,48] ty #[.slice (some ⟨g,i*2,none⟩) (n+m - i) dc,.slice (some ⟨vb,0,none⟩) m vc]).run Tryz.prog W=.ok (goInt m) (W.setRow g cur2):=fun W hW ty dc=>by
    have hgW:W.heap[g]?=some (.cells cur1 127 (0,0)):=by rw[hW];exact setRow_heap _ _ _ _ _ _ hgd
    have hvW:W.heap[vb]?=some (.cells vcur 127 (0,0)):=by rw[hW,setRow_other _ _ _ _ hvb];exact hv
    have:=Zc (P:=Tryz.prog) W 48 48 ty 127 2 g (i*2) (n+m - i) dc ⟨vb,0,none⟩ m vc cur1 127 vs m (by omega) hu hsz hgW hvl2 (fun j v hj=>by
      rw[e2,List.getElem?_take]at hj;split at hj
      . rw[Addr.add_lit];simp only[World.cell?,hvW,Nat.zero_add];simpa using hj
      . cases hj) (by rw[hvl2,hs1];omega) h1v
    rw[this];congr 2
    apply Array.toList_inj.1;rw[e3,hcur1];simp only[List.toList_toArray];rw[Zez cur.toList cs vs (i*2) ((i+m)*2) ((n+m)*2) (by rw[hvl2];omega) (by rw[hcl];omega) (by simp;omega)]
  have mixed:Tryz.prog.follows Departure.mixedOrders=true:=by kernel_rfl
  go_enter Tryz.func192,Tryz.ntmps192
  go_wp2_with (simp only[hov])
  go_region_law_o (refine step_copy_runI rfl _ _ 48 48 rfl _ _ (by simp[Act.eval,Act.put]) (by simp[Act.eval,Act.put]) (hcp1 _ _ _) ?_)
  go_wp2_with (at_builtin;refine wpList_copy_runI _ rfl _ _ 48 48 rfl _ _ rfl rfl (hcp2 _ rfl _ _) ?_)
  go_ret
  first|exact⟨rfl,rfl⟩|exact⟨rfl,by rw[setRow_setRow]⟩
set_option maxRecDepth 100000 in
theorem Zqk (w:World) (g n c i vb m vc:Nat) (hd cs vs:List Value) (cur vcur:Array Value) (hi:i<n) (hm:0<m) (hnc:n<=c) (hroom:c<n+m) (hbig:(n+m)*24<=140737488355328) (hg:w.heap[g]?=some (.cells cur 127 (0,0))) (hcs:cur.size=c*2) (hv:w.heap[vb]?=some (.cells vcur 127 (0,0))) (hvl:m*2<=vcur.size) (e0:hd=cur.toList.take (i*2)) (e1:cs=(cur.toList.drop (i*2)).take ((n - i)*2)) (e2:vs=vcur.toList.take (m*2)) (h1c:∀v∈cs,v.oneCell'=true) (h1v:∀v∈vs,v.oneCell'=true) : Calls Tryz.prog 192 #[.slice (some ⟨g,0,none⟩) n c,.int .i64 i,.slice (some ⟨vb,0,none⟩) m vc] w fun e w'=>∃(G:Nat) (cur3:Array Value),e=.returned (.slice (some ⟨w.heap.size,0,none⟩) (n+m) G)/\n+m<=G/\G<=maxLen/\cur3.size=G*2/\cur3.toList.take ((n+m)*2)=hd++vs++cs /\ w'.heap[w.heap.size]?=some (.cells cur3 127 (0,0))/\w.grownBy w' none:=by
  have hz1:¬((m:Int)=0):=by omega
  have hz2:¬((i:Int)=(n:Int)):=by omega
  have hz3:(c:Int)<(n:Int)+(m:Int):=by omega
  have hw1:IntKind.i64.wrap ((i:Int)+(m:Int))=(i:Int)+(m:Int):=by rw[IntKind.wrap_i64];omega
  have hb1:(0:Int)<=(i:Int)+(m:Int):=by omega
  have hin:i<=n:=by omega
  have htn:((i:Int)+(m:Int)).toNat=i+m:=by omega
  have hb3:(i:Int)<=(n:Int):=by omega
  have hu:=Tryz.underlying48;have hsz:(Tryz.prog.info? 127).map (·.size)=some 2:=by kernel_rfl
  obtain⟨i0,hi0⟩:∃i0,Tryz.prog.info? 127=some i0:=by
    cases hq:Tryz.prog.info? 127 with
    | none=>rw[hq]at hsz;simp at hsz
    | some i=>exact⟨i,rfl⟩
  have hk:i0.size=2:=by rw[hi0]at hsz;simpa using hsz
  have hby:i0.bytes=24:=by
    have:(Tryz.prog.info? 127).map (·.bytes)=some 24:=by kernel_rfl
    rw[hi0]at this;simpa using this
  obtain⟨z,hz,hzs⟩:∃z,i0.zero=some z/\z.cells.size=2:=by
    have:(Tryz.prog.info? 127).bind (fun i=>i.zero.map (fun z=>z.cells.size))=some 2:=by kernel_rfl
    rw[hi0]at this;simp only[Option.bind_some,Option.map_eq_some_iff]at this;exact this
  have hbw:g<w.heap.size:=(Array.getElem?_eq_some_iff.1 hg).1;have hvw:vb<w.heap.size:=(Array.getElem?_eq_some_iff.1 hv).1;have hkk:(n:Int)+(m:Int) - (i:Int)=((n+m - i:Nat):Int):=by omega
  have hik:i+(n+m - i)=n+m:=by omega
  have hgd:w.drew.heap[g]?=some (.cells cur 127 (0,0)):=hg;have hhl:hd.length=i*2:=by rw[e0];simp;omega
  have hold:(Builtin.firstCells i0.size i (.slice (some ⟨g,0,none⟩) i c)).run Tryz.prog w.drew=.ok hd.toArray w.drew:=by
    rw[hk];exact run_firstCells_some w.drew 2 i ⟨g,0,none⟩ i c hd hhl (fun j v hj=>by
      rw[Addr.add_lit];rw[e0,List.getElem?_take]at hj;split at hj
      . simp only[World.cell?,hgd,Nat.zero_add];simpa using hj
      . cases hj)
  have hrz:∀ty,(Builtin.append_ #[48,3] ty #[.slice (some ⟨g,0,none⟩) i c,.int .i64 ((n:Int)+(m:Int) - (i:Int))]).run Tryz.prog w =
      .ok (.slice (some ⟨w.heap.size,0,none⟩) (n+m) (grownCap w (n+m) c 127)) (w.drew.alloc (.cells (hd.toArray++Builtin.zeroCells z.cells (n+m - i)++Builtin.zeroCells z.cells (grownCap w (n+m) c 127 - (n+m))) 127)):=fun ty=>by
    have h:=Lib.run_append_grow_zeros w 48 3 ty 127 i0 z .i64 .i64 hu Tryz.underlying3 hi0 hz (some ⟨g,0,none⟩) i c hd hold (n+m - i) (by omega) (by omega) (by omega) (by omega) (by rw[hby];omega) (by rw[hby,hik];exact growslice_fits hroom hbig);rw[hik]at h;rw[hkk];exact h
  obtain⟨G,hG⟩:∃G,G=grownCap w (n+m) c 127:=⟨_,rfl⟩
  obtain⟨ROW,hROW⟩:∃ROW:Array Value,ROW=hd.toArray++Builtin.zeroCells z.cells (n+m - i)++Builtin.zeroCells z.cells (G - (n+m)):=⟨_,rfl⟩
  rw[<- hG]at hrz;rw[<- hROW]at hrz;have hGn:n+m<=G:=by rw[hG];exact grownCap_ge w _ _ _
  have hG63:G<=maxLen:=by have:=grownCap_le_maxLen w (n+m) c 127 (by unfold maxLen;omega);rw[<- hG]at this;exact this
  have hG63':G<=9223372036854775807:=hG63;have hRl:ROW.size=G*2:=by rw[hROW];simp only[Array.size_append,List.size_toArray,Z1k,hzs,hhl];omega
  have hRt:ROW.toList.take (i*2)=hd:=by rw[hROW];simp only[Array.toList_append,List.toList_toArray,List.append_assoc];rw[List.take_append_of_le_length (by omega),List.take_of_length_le (by omega)]
  have hcl:cs.length=(n - i)*2:=by rw[e1];simp;omega
  have hvl2:vs.length=m*2:=by rw[e2];simp;omega
  obtain⟨W1,hW1⟩:∃W1,W1=w.drew.alloc (.cells ROW 127):=⟨_,rfl⟩
  rw[<- hW1]at hrz;have hN:W1.heap[w.heap.size]?=some (.cells ROW 127 (0,0)):=by rw[hW1];exact heap_alloc_new w.drew _
  have hO:∀k,k<w.heap.size->W1.heap[k]?=w.heap[k]?:=fun k hk=>by rw[hW1];exact heap_alloc_old w.drew _ hk
  obtain⟨cur2,hcur2⟩:∃cur2:Array Value,cur2=(ROW.toList.take (i*2)++vs++ROW.toList.drop (i*2+vs.length)).toArray:=⟨_,rfl⟩
  obtain⟨cur3,hcur3⟩:∃cur3:Array Value,cur3=(cur2.toList.take ((i+m)*2)++cs++cur2.toList.drop ((i+m)*2+cs.length)).toArray:=⟨_,rfl⟩
  have hs2:cur2.size=ROW.size:=by rw[hcur2];simp only[List.size_toArray,qy11,List.length_take,List.length_drop,Array.length_toList,hvl2];omega
  have hs3:cur3.size=ROW.size:=by rw[hcur3];simp only[List.size_toArray,qy11,List.length_take,List.length_drop,Array.length_toList,hcl,hs2];omega
  have ht3:cur3.toList.take ((n+m)*2)=hd++vs++cs:=by rw[hcur3,hcur2];simp only[List.toList_toArray];rw[hRt,Zf0 hd vs cs _ ((i+m)*2) (by omega)];rw[List.take_append_of_le_length (by simp only[qy11];omega),List.take_of_length_le (by simp only[qy11];omega)]
  have hcpA:∀(W:World),W.heap=W1.heap->∀ty dc,(Builtin.copy_ #[48,48] ty #[.slice (some ⟨w.heap.size,i*2,none⟩) (n+m - i) dc,.slice (some ⟨vb,0,none⟩) m vc]).run Tryz.prog W=.ok (goInt m) (W.setRow w.heap.size cur2):=fun W hW ty dc=>by
    rw[hcur2];exact Zc (P:=Tryz.prog) W 48 48 ty 127 2 w.heap.size (i*2) (n+m - i) dc ⟨vb,0,none⟩ m vc ROW 127 vs m (by omega) hu hsz (by rw[hW];exact hN) hvl2 (fun j v hj=>by
      rw[e2,List.getElem?_take]at hj;split at hj
      . rw[Addr.add_lit];simp only[World.cell?,hW,hO vb hvw,hv,Nat.zero_add];simpa using hj
      . cases hj) (by rw[hvl2,hRl];omega) h1v
  have hcpB:∀(W:World),W.heap=(W1.setRow w.heap.size cur2).heap->∀ty dc sc,(Builtin.copy_ #[48,48] ty #[.slice (some ⟨w.heap.size,(i+m)*2,none⟩) (n+m - (i+m)) dc,.slice (some ⟨g,i*2,none⟩) (n - i) sc]).run Tryz.prog W=.ok (goInt ((n - i:Nat):Int)) (W.setRow w.heap.size cur3):=fun W hW ty dc sc=>by
    rw[hcur3];exact Zc (P:=Tryz.prog) W 48 48 ty 127 2 w.heap.size ((i+m)*2) (n+m - (i+m)) dc ⟨g,i*2,none⟩ (n - i) sc cur2 127 cs (n - i) (by omega) hu hsz (by rw[hW];exact setRow_heap _ _ _ _ _ _ hN) hcl (fun j v hj=>by
      rw[e1,List.getElem?_take]at hj;split at hj
      . rw[Addr.add_lit];simp only[World.cell?,hW,setRow_other _ _ _ _ (Nat.ne_of_lt hbw),hO g hbw,hg];simpa using hj
      . cases hj) (by rw[hcl,hs2,hRl];omega) h1c
  have hGi:¬(G=i):=by omega
  have hGim:¬(G=i+m):=by omega
  have hci:¬(c=i):=by omega
  have hfin:∀W:World,W.heap=(W1.setRow w.heap.size cur2).heap->W.os=w.os->W.tape=w.tape->W.output=w.output->∃(G':Nat) (cur4:Array Value),Ending.returned (.slice (some ⟨w.heap.size,0,none⟩) (n+m) G)=.returned (.slice (some ⟨w.heap.size,0,none⟩) (n+m) G')/\n+m<=G'/\G'<=maxLen/\cur4.size=G'*2/\cur4.toList.take ((n+m)*2)=hd++vs++cs /\
      (W.setRow w.heap.size cur3).heap[w.heap.size]?=some (.cells cur4 127 (0,0))/\w.grownBy (W.setRow w.heap.size cur3) none:=by
    intro W hW ho ht hou;refine⟨G,cur3,rfl,hGn,hG63,by rw[hs3,hRl],ht3,setRow_heap _ _ _ _ _ _ (by rw[hW];exact setRow_heap _ _ _ _ _ _ hN),⟨ho,ht,hou,?_,fun k hk _=>?_⟩⟩
    . rw[setRow_size,hW,setRow_size,hW1];exact Nat.le_of_lt (by show w.heap.size<(w.heap.push _).size;rw[Array.size_push];omega)
    . rw[setRow_other _ _ _ _ (by omega),hW,setRow_other _ _ _ _ (by omega)];exact hO k hk
  subst hW1;have mixed:Tryz.prog.follows Departure.mixedOrders=true:=by kernel_rfl
  have hE1:((w.alloc (.cells ROW 127)).drew).heap=(w.drew.alloc (.cells ROW 127)).heap:=rfl;have hF1:(((w.alloc (.cells ROW 127)).drew.setRow w.heap.size cur2).drew).heap=((w.drew.alloc (.cells ROW 127)).setRow w.heap.size cur2).heap:=rfl;clear hkk hik hold hROW hG hRl hcur2 hcur3 hs2 hs3 ht3 hRt;go_enter Tryz.func192,Tryz.ntmps192
  go_wp2_with (first
    | (at_builtin;refine Lib.wpList_append_run _ rfl _ _ _ _ rfl _ _ rfl rfl _ _ (hrz _) ?_)
    | (at_builtin;refine wpList_copy_runI _ rfl _ _ 48 48 rfl _ _ rfl rfl (hcpA _ hE1 _ _) ?_)
    | (at_builtin;refine wpList_copy_runI _ rfl _ _ 48 48 rfl _ _ rfl rfl (hcpB _ hF1 _ _ _) ?_))
  go_region_law_o (refine step_copy_runI rfl _ _ 48 48 rfl (.slice (some ⟨w.heap.size,(i+m)*2,none⟩) (n+m - (i+m)) (G - (i+m))) (.slice (some ⟨g,i*2,none⟩) (n - i) (c - i)) (by simp[Act.eval,Act.put]) (by simp[Act.eval,Act.put]) (hcpB _ hF1 3 (G - (i+m)) (c - i)) ?_)
  go_wp2
  go_ret
  exact hfin _ rfl rfl rfl rfl
theorem Zql (w:World) (s v:Value) (i:Nat) (R V:List (List Value)) (hs:owns w s 127 [.int .i64,.str] R) (hv:owns w v 127 [.int .i64,.str] V) (hne:∀k,Z1 s k->Z1 v k->False) (hi:i<=R.length) (hb:(R.length+V.length)*24<=140737488355328) : Calls Tryz.prog 192 #[s,.int .i64 i,v] w fun e w'=>∃v',e=.returned v'/\Zdr w w' s v' 127 [.int .i64,.str] (R.take i++V++R.drop i):=by
  have hs':=hs;have hv':=hv;obtain⟨hk1,hl1,ho⟩:=hs;obtain⟨hk2,hl2,hov⟩:=hv;have hu:=Tryz.underlying48;have hrl1:∀r∈R,r.length=2:=fun r hr=>(hk1 r hr).length;have hrl2:∀r∈V,r.length=2:=fun r hr=>(hk2 r hr).length;obtain⟨inf,hinf⟩:∃i0,Tryz.prog.info? 127=some i0:=by
    have:(Tryz.prog.info? 127).isSome=true:=by kernel_rfl
    exact Option.isSome_iff_exists.1 this
  have hk:inf.size=2:=by
    have:(Tryz.prog.info? 127).map (·.size)=some 2:=by kernel_rfl
    rw[hinf]at this;simpa using this
  have hby:inf.bytes=24:=by
    have:(Tryz.prog.info? 127).map (·.bytes)=some 24:=by kernel_rfl
    rw[hinf]at this;simpa using this
  obtain⟨z,hz,hzs⟩:∃z,inf.zero=some z/\z.cells.size=2:=by
    have:(Tryz.prog.info? 127).bind (fun i=>i.zero.map (fun z=>z.cells.size))=some 2:=by kernel_rfl
    rw[hinf]at this;simp only[Option.bind_some,Option.map_eq_some_iff]at this;exact this
  have hbase:∀{v:Value} {n:Nat} {xs:List Value},((v=.slice none 0 0/\n=0)\/∃g cap cur,v=.slice (some ⟨g,0,none⟩) n cap/\0<=g/\w.heap[g]?=some (.cells cur 127 (0,0))/\n<=cap/\cap<=maxLen/\cur.size=cap*2/\cur.toList.take (n*2)=xs)->∃b c,v=.slice b n c/\n<=c/\(b=none->c=0):=by
    intro v n xs h;rcases h with ⟨rfl,rfl⟩|⟨g,cap,cur,rfl,-,-,h,-⟩
    . exact⟨none,0,rfl,Nat.le_refl _,fun _=>rfl⟩
    . exact⟨some ⟨g,0,none⟩,cap,rfl,h,fun h=>by cases h⟩
  by_cases hV:V=[]
  . subst hV;obtain⟨b,c,rfl,hc1,hc2⟩:=hbase ho;obtain⟨vb,vc,rfl,-,-⟩:=hbase hov;refine(Zqj w b R.length c i vb vc hi hc1 hc2).mono ?_;rintro e w' ⟨rfl,rfl⟩;exact⟨_,rfl,by simpa using hs',fun k hk=>.inl hk,Z6c _ _⟩
  have hVl:0<V.length:=List.length_pos_iff.2 hV;by_cases hin:i=R.length
  . subst hin;obtain⟨b,c,rfl,hc1,hc2⟩:=hbase ho;obtain⟨vb,vc,rfl,-,-⟩:=hbase hov;obtain⟨v',w',h1,h2,h3,h4⟩:=Z4j (ks:=[.int .i64,.str]) (ty:=48) hu hinf hz hk hzs hby (by decide) hs' hv'.reads hb (by decide);have hrun:∀ty,(Builtin.append_ #[48,48] ty #[.slice b R.length c,.slice vb V.length vc]).run Tryz.prog w=.ok v' w':=fun ty=>h1;refine(Zup w b R.length c vb V.length vc hVl hc1 hc2 v' w' hrun).mono ?_;rintro e w1 ⟨rfl,rfl⟩;exact⟨_,rfl,by simpa using h2,h4,h3⟩
  have hin:i<R.length:=by omega
  rcases ho with ⟨-,hn⟩|⟨g,c,cur,rfl,-,hg,hnc,hcm,hcs,htk⟩
  . omega
  rcases hov with ⟨-,hn⟩|⟨vb,vc,vcur,rfl,-,hvg,hvn,-,hvs,hvt⟩
  . omega
  replace hcs:cur.size=c*2:=hcs;replace hvs:vcur.size=vc*2:=hvs;replace htk:cur.toList.take (R.length*2)=R.flatten:=htk;replace hvt:vcur.toList.take (V.length*2)=V.flatten:=hvt;replace hl1:R.flatten.length=R.length*2:=hl1;have hcl2:cur.toList.length=c*2:=by rw[Array.length_toList];exact hcs
  replace hl2:V.flatten.length=V.length*2:=hl2;have hvb:vb≠g:=fun e=>hne g rfl (by rw[<- e];rfl);have t1:cur.toList.take (i*2)=(R.take i).flatten:=by rw[<- Z1h i hrl1,<- htk,List.take_take,Nat.min_eq_left (by omega)]
  have t2:(cur.toList.drop (i*2)).take ((R.length - i)*2)=(R.drop i).flatten:=by rw[<- Z1i i hrl1,<- htk,List.drop_take,Nat.sub_mul]
  have o1:∀x∈(R.drop i).flatten,x.oneCell'=true:=Z32 fun r hr=>hk1 r (List.mem_of_mem_drop hr);have o2:∀x∈V.flatten,x.oneCell'=true:=Z32 hk2;have hrows:∀r∈R.take i++V++R.drop i,rowOk [.int .i64,.str] r:=by
    intro r hr;simp only[qy13]at hr;rcases hr with (hr|hr)|hr
    . exact hk1 r (List.mem_of_mem_take hr)
    . exact hk2 r hr
    . exact hk1 r (List.mem_of_mem_drop hr)
  have hlen:(R.take i++V++R.drop i).length=R.length+V.length:=by simp;omega
  have hfl:(R.take i++V++R.drop i).flatten.length=(R.length+V.length)*2:=by have:=Za (n:=2) (fun r hr=>(hrows r hr).length);rw[hlen]at this;exact this
  by_cases hroom:R.length+V.length<=c
  . obtain⟨cur2,hcur2⟩:∃cur2:Array Value,cur2=(cur.toList.take (i*2)++V.flatten++(R.drop i).flatten++cur.toList.drop ((R.length+V.length)*2)).toArray:=⟨_,rfl⟩
    refine(Zmt w g R.length c i vb V.length vc (R.drop i).flatten V.flatten cur vcur cur2 hin hVl hroom hcm hvb hg hcs hvg (by omega) t2.symm hvt.symm o1 o2 (by rw[hcur2])).mono ?_;rintro e w' ⟨rfl,rfl⟩;have hgd:w.drew.heap[g]?=some (.cells cur 127 (0,0)):=hg;refine⟨_,rfl,⟨hrows,?_,.inr ⟨g,c,cur2,by rw[hlen],Nat.zero_le _,setRow_heap _ _ _ _ _ _ hgd,by omega,hcm,?_,?_⟩⟩,fun k hk=>.inl hk,⟨rfl,rfl,rfl,by rw[setRow_size];exact Nat.le_refl _,fun k hk hkr=>setRow_other _ _ _ _ (fun e=>hkr (by rw[e];rfl))⟩⟩
    . rw[hfl,hlen];rfl
    . show cur2.size=c*2
      rw[hcur2];have:(cur.toList.take (i*2)++V.flatten++(R.drop i).flatten).length=(R.length+V.length)*2:=by rw[t1,<- hfl];simp[List.flatten_append]
      rw[List.size_toArray,qy11,this,List.length_drop,hcl2];omega
    . have:cur.toList.take (i*2)++V.flatten++(R.drop i).flatten=(R.take i++V++R.drop i).flatten:=by
        rw[t1];simp[List.flatten_append]
      show cur2.toList.take (_*2)=_
      rw[hcur2,List.toList_toArray,this,hlen,List.take_append_of_le_length (by omega),List.take_of_length_le (by omega)]
  . refine(Zqk w g R.length c i vb V.length vc (R.take i).flatten (R.drop i).flatten V.flatten cur vcur hin hVl hnc (by omega) (by omega) hg hcs hvg (by omega) t1.symm t2.symm hvt.symm o1 o2).mono ?_;rintro e w' ⟨G,cur3,rfl,q1,q2,q3,q4,q5,q6⟩;refine⟨_,rfl,⟨hrows,?_,.inr ⟨w.heap.size,G,cur3,by rw[hlen],Nat.zero_le _,q5,by omega,q2,q3,?_⟩⟩,fun k hk=>.inr ?_,⟨q6.os,q6.tape,q6.output,q6.size,fun k hk _=>q6.block k hk (by simp)⟩⟩
    . rw[hfl,hlen];rfl
    . rw[hlen]
      show cur3.toList.take ((R.length+V.length)*2)=_
      rw[q4];simp[List.flatten_append]
    . have:w.heap.size=k:=Option.some.inj hk;omega
end Go.Proofs.YtkhakgbnfapifaaGreatDoor
namespace Go.Proofs.YtkhakgbnfapifaaGreatDoor
open Go.Sx
theorem Zqm {was:Int} {o:Opt} {l:List Opt}:optE was (o::l)=0↔(0<=o.1/\o.1<=65535)/\was<=o.1/\o.2.length<=60/\optE o.1 l=0:=by
 simp only[optE];constructor
 ·intro h;split at h
  ·split at h
   ·exact absurd h (by decide)
   ·split at h
    ·exact absurd h (by decide)
    ·exact⟨by assumption,by omega,by omega,h⟩
  ·exact absurd h (by decide)
 ·rintro⟨h1,h2,h3,h4⟩;rw[if_pos h1,if_neg (by omega),if_neg (by omega),h4]
theorem Zyk (os:List Opt) (i:Nat) (h:i<os.length):os.take (i+1)=os.take i++[os.getD i oD]:=by rw[List.take_add_one,qy1,qy7 h];rfl
abbrev kO:List Kd:=[.int .i64,.str]
abbrev Zqn (w:World) (v:Value) (l:List Opt):Prop:=owns w v 127 kO (l.map encO)
def newO (n:Nat) (u:Value):Prop:=∀k,Z1 u k->n<=k
theorem Zkr {ρ:List V} {g:List Nat} {i:Nat} (hi:i∈g) {k:Nat} (h:Z1 (ρ.getD i (.i 0)).toV k):k∈Z11 ρ g:=List.mem_flatMap.2 ⟨i,hi,by rw[h];simp⟩
theorem Zqo {v:Value} (hn:(match v with | .slice none _ _=>true|_=>false)=true) {w:World} {ks:List Kd} {rows:List (List Value)} (h:reads w v ks rows):rows=[]:=by obtain⟨_,a,cap,rfl,_,h2⟩:=h;refine Classical.byContradiction fun hne=>?_;obtain⟨ad,rfl,_⟩:=h2 hne;simp at hn
theorem Zuq (w:World) (v:Value) (l:List Opt) (hv:Z49 w v l) (hl:l.length<1000000000):Calls Tryz.prog 244 #[sc1 v] w fun e w'=>∃v',e=.returned (sc1 v')/\Zqn w' v' l/\(∀k,Z1 v' k->w.heap.size<=k)/\Mod [] w w':=by
 refine Z2 (Z4 (ρ:=[.v v,.r (l.map encO)]) sxE_ok Tryz.func244 Z1s rfl rfl (Rel.start2 (by simp[Ent.holds,Ent.wr,hv,X.ev])) rfl rfl ?_) rfl;simp only[Tree.goal,X.P,X.ev,SV.ev,CV.ev,Sc.ev,qz,QA,QB,QC,QD,QE,QF,QG,QH,QI,QJ,QK,QL,QM,Nat.reduceAdd,qy3,List.nil_append];refine⟨fun h w' hr=>?_,fun h v1=>⟨by simp only[Int.natCast_zero];omega,fun v2 w' hr=>?_⟩⟩
 ·have hn:l=[]:=List.map_eq_nil_iff.1 (Zqo h hv);subst hn;exact⟨_,rfl,hr.at_ 0 rfl,hr.fresh 0 rfl,hr.mod⟩
 ·exact⟨v2,rfl,hr.at_ 0 rfl,hr.fresh 0 rfl,hr.mod⟩
theorem Z10t (w:World) (s v:Value) (l x:List Opt) (i:Nat) (hs:Zqn w s l) (hv:Zqn w v x) (hne:∀k,Z1 s k->Z1 v k->False) (hi:i<=l.length) (hl:l.length<1000000000) (hx:x.length<1000000000) : Calls Tryz.prog 192 #[sc1 s,.int .i64 i,sc1 v] w fun e w'=>∃v',e=.returned (sc1 v')/\Zqn w' v' (l.take i++x++l.drop i)/\(∀k,Z1 v' k->Z1 s k\/w.heap.size<=k)/\Mod s.ownBlock.toList w w':=by rw[hs.reads.sc1,hv.reads.sc1];refine(Zql w s v i _ _ hs hv hne (by simpa using hi) (by simp;omega)).mono ?_;rintro e w' ⟨v',rfl,g1,g2,g3⟩;refine⟨v',by rw[g1.reads.sc1],?_,g2,Mod.of_grown g3 fun k hk=>.inl (Option.mem_toList.2 hk)⟩;rw[Zqn,List.map_append,List.map_append,List.map_take,List.map_drop];exact g1
theorem Zur (R:List Opt) (m:Nat) (x:Opt):(R.map encO).set m [.int .i64 x.1,.string ⟨x.2.toArray⟩]=(R.set m x).map encO:=by rw[List.map_set];rfl
theorem Zks (n:Int) (os:List Opt) (i:Nat) (h:i<os.length):noN n (os.take (i+1))=noN n (os.take i)++(if (os.getD i oD).1=n then [] else [os.getD i oD]):=by
 rw[Zyk os i h,noN,noN,List.filter_append];generalize os.getD i oD=o
 by_cases h1:o.1=n<;>simp[h1]
theorem Zyl (n:Int) (os:List Opt):(noN n os).length<=os.length:=List.length_filter_le _ _
theorem Zqp {n:Int} {os:List Opt} (h:∀j,j<os.length->(os.getD j oD).1≠n):noN n os=os:=by refine Z10s fun o ho=>?_;obtain⟨i,hi,rfl⟩:=List.getElem_of_mem ho;have:=h i hi;rwa [qy1,qy7 hi]at this
theorem Z8m (w:World) (m:Msg) (v u:Value) (n:Int) (us:List (List UInt8)) (hv:Z49 w v m.opts) (hu:Zdi w u us) (hl:m.opts.length<1000000000) (hul:us.length<1000000000) : Calls Tryz.prog 111 #[mV m (sc1 v),.int .i64 n,sc1 u] w fun e w'=>∃v',e=.returned (mV m (sc1 v'))/\Z49 w' v' (Zyj m.opts n us)/\newO w.heap.size v'/\Mod [] w w':=by
 refine Z2 (Z4 (ρ:=[.i m.kind,.i m.code,.i m.id,.s m.tok,.v v,.r (m.opts.map encO),.s m.pay,.i n,.v u,.r (us.map Z1f)]) (sxE_ok.joins _) Tryz.func111 Za3 rfl rfl (Rel.start2 (by simp[Ent.holds,Ent.wr,hv,hu,X.ev])) rfl rfl ?_) rfl;simp only[Tree.goal,X.P,X.ev,SV.ev,CV.ev,Sc.ev,qz,QA,QB,QC,QD,QE,QF,QG,QH,QI,QJ,QK,QL,QM,Nat.reduceAdd,qy3,qy4,Z2e,Z2f,Zn];intro b1 b2 b3 b4 b5 w1 hr;refine(Zuq w1 v m.opts (hr.at_ 5 rfl) hl).mono ?_;rintro e w2 ⟨q,rfl,a1,f1,m1⟩;refine⟨[.v q,.r (m.opts.map encO)],rfl,rfl,m1,qy5 _,qy2.2 ⟨⟨a1,fun k hk=>.inl (f1 k hk)⟩,qy5 _⟩,Z3,?_⟩;clear hr a1 f1 m1;simp only[Tree.goal,X.P,X.ev,SV.ev,CV.ev,Sc.ev,qz,QA,QB,QC,QD,QE,QF,QG,QH,QI,QJ,QK,QL,QM,Nat.reduceAdd,qy3,qy4,Z2e,Z2f,Zn];intro b6;generalize hos:m.opts=os at hl ⊢
 refine⟨fun vs=>∃u',vs=[.i 0,.i 0,.i 0,.i 0,.i 0,.i 0,.i 0,.i 0,.i 0,.i 0,.v u',.i n,.r ((noN n os).map encO)],?_,?_⟩
 ·refine⟨fun vs=>∃(x:V) (i:Nat),vs=[x,.i i,.i n]/\i<=os.length/\∀j,j<i->(os.getD j oD).1≠n,fun vs=>(os.length - (vs.getD 1 (.i 0)).toI).toNat,⟨_,0,rfl,by omega,fun j hj=>by omega⟩,?_⟩;rintro _ - ⟨x,i,rfl,hi,hn⟩;simp only[Tree.goal,X.P,X.ev,SV.ev,CV.ev,Sc.ev,qz,QA,QB,QC,QD,QE,QF,QG,QH,QI,QJ,QK,QL,QM,Nat.reduceAdd,qy3,qy4,Z2e,Z2f,Zn];refine⟨fun h1=>?_,fun h1=>?_⟩
  ·(repeat refine⟨by omega,?_⟩)
   intro b7;refine⟨fun h2=>⟨fun h3=>by omega,fun h3=>⟨by omega,by omega,?_⟩⟩,fun h2=>?_⟩
   ·refine⟨fun vs=>∃(a j:Nat) (R:List Opt),vs=[.i a,.i j,.r (R.map encO),.i n]/\a<j/\j<=os.length/\R.length=os.length/\R.take a=noN n (os.take j)/\R.drop j=os.drop j,fun vs=>(os.length - (vs.getD 1 (.i 0)).toI).toNat,
     ⟨i,i+1,os,rfl,by omega,by omega,rfl,?_,rfl⟩,?_⟩
    ·rw[Zks n os i (by omega),if_pos h2,List.append_nil,Zqp];intro j hj;simp only[List.length_take]at hj;have:=hn j (by omega);rw[qy1]at this ⊢;rwa [List.getElem?_take_of_lt (by omega)]
    rintro _ - ⟨a,j,R,rfl,haj,hj,hR,ht,hd⟩;simp only[Tree.goal,X.P,X.ev,SV.ev,CV.ev,Sc.ev,qz,QA,QB,QC,QD,QE,QF,QG,QH,QI,QJ,QK,QL,QM,Nat.reduceAdd,qy3,qy4,Z2e,Z2f,Zn,hR];have hg:j<os.length->R.getD j oD=os.getD j oD:=fun h=>by have:=congrArg (fun l=>l[0]?) hd;simp only[List.getElem?_drop,Nat.add_zero]at this;rw[qy1,qy1,this]
    refine⟨fun h3=>?_,fun h3=>?_⟩
    ·(repeat refine⟨by omega,?_⟩)
     intro b8 b9;have hjl:j<os.length:=by omega
     have hs1:=Zks n os j hjl;have hg:=hg hjl;have hd':R.drop (j+1)=os.drop (j+1):=by have:=congrArg (fun l=>l.drop 1) hd;simpa [List.drop_drop,Nat.add_comm]using this
     refine⟨fun h4=>?_,fun h4=>?_⟩
     ·(repeat refine⟨by omega,?_⟩)
      refine⟨⟨a+1,j+1,R.set a (R.getD j oD),?_,by omega,by omega,by simpa using hR,?_,?_⟩,by omega⟩
      ·rw[<- Zur];rfl
      ·rw[hs1,if_neg (by rw[<- hg];exact h4),<- ht,<- hg,Zyk _ _ (by simp;omega)];congr 1
       ·rw[List.take_set_of_le (Nat.le_refl _)]
       ·rw[qy1,List.getElem?_set_self (by omega)];rfl
      ·rw[List.drop_set_of_lt (by omega)];exact hd'
     ·(repeat refine⟨by omega,?_⟩)
      refine⟨⟨a,j+1,R,rfl,by omega,by omega,hR,?_,hd'⟩,by omega⟩;rw[hs1,if_pos (by rw[<- hg];exact qy9.1 h4),List.append_nil];exact ht
    ·have hje:j=os.length:=by omega
     subst hje;rw[List.take_length]at ht;refine⟨by omega,by omega,?_,fun u'=>⟨u',?_⟩⟩
     ·simp only[qy11,List.length_take,List.length_replicate,qy3,hR];omega
     ·congr 1
      simp only[List.cons.injEq,true_and,and_true];congr 1
      rw[List.take_append_of_le_length (by simp;omega),List.take_take,Nat.min_self,<- List.map_take,ht]
   ·(repeat refine⟨by omega,?_⟩)
    refine⟨⟨_,i+1,rfl,by omega,fun j hj=>?_⟩,by omega⟩;by_cases hji:j=i
    ·subst hji;exact h2
    ·exact hn j (by omega)
  ·have hie:i=os.length:=by omega
   subst hie;refine⟨q,?_⟩;rw[Zqp hn]
 rintro _ - ⟨u',rfl⟩;generalize hN:noN n os=R
 have hRl:R.length<1000000000:=by have:=Zyl n os;rw[hN]at this;omega
 simp only[Tree.goal,X.P,X.ev,SV.ev,CV.ev,Sc.ev,qz,QA,QB,QC,QD,QE,QF,QG,QH,QI,QJ,QK,QL,QM,Nat.reduceAdd,qy3,qy4,Z2e,Z2f,Zn];refine⟨fun vs=>∃k:Int,vs=[.i 0,.i 0,.i n,.i 0,.i k]/\((k=-1/\∀j,j<R.length->(R.getD j oD).1<=n)\/∃i:Nat,k=i/\i<R.length/\(∀j,j<i->(R.getD j oD).1<=n)/\n<(R.getD i oD).1),?_,?_⟩
 ·refine⟨fun vs=>∃(x:V) (i:Nat),vs=[x,.i i,.i n]/\i<=R.length/\∀j,j<i->(R.getD j oD).1<=n,fun vs=>(R.length - (vs.getD 1 (.i 0)).toI).toNat,⟨_,0,rfl,by omega,fun j hj=>by omega⟩,?_⟩;rintro _ - ⟨x,i,rfl,hi,hn⟩;simp only[Tree.goal,X.P,X.ev,SV.ev,CV.ev,Sc.ev,qz,QA,QB,QC,QD,QE,QF,QG,QH,QI,QJ,QK,QL,QM,Nat.reduceAdd,qy3,qy4,Z2e,Z2f,Zn];refine⟨fun h1=>?_,fun h1=>⟨-1,rfl,.inl ⟨rfl,fun j hj=>hn j (by omega)⟩⟩⟩
  (repeat refine⟨by omega,?_⟩)
  intro b7;refine⟨fun h2=>⟨i,rfl,.inr ⟨i,rfl,by omega,hn,h2⟩⟩,fun h2=>?_⟩
  (repeat refine⟨by omega,?_⟩)
  refine⟨⟨_,i+1,rfl,by omega,fun j hj=>?_⟩,by omega⟩;by_cases hji:j=i
  ·subst hji;omega
  ·exact hn j (by omega)
 rintro _ - ⟨k,rfl,hk⟩;simp only[Tree.goal,X.P,X.ev,SV.ev,CV.ev,Sc.ev,qz,QA,QB,QC,QD,QE,QF,QG,QH,QI,QJ,QK,QL,QM,Nat.reduceAdd,qy3,qy4,Z2e,Z2f,Zn];refine⟨fun vs=>∃k:Nat,vs=[.i k]/\k<=R.length/\(∀j,j<k->(R.getD j oD).1<=n)/\(k<R.length->n<(R.getD k oD).1),⟨fun h1=>?_,fun h1=>?_⟩,?_⟩
 ·rcases hk with ⟨h2,h3⟩|⟨i,h2,-⟩
  ·exact⟨R.length,rfl,Nat.le_refl _,h3,fun h=>by omega⟩
  ·omega
 ·rcases hk with ⟨h2,h3⟩|⟨i,h2,h3,h4,h5⟩
  ·omega
  ·subst h2;exact⟨i,rfl,by omega,h4,fun _=>h5⟩
 rintro _ - ⟨i,rfl,hi,h1,h2⟩;obtain⟨e1,e2⟩:=Zkq hi h1 h2;simp only[Tree.goal,X.P,X.ev,SV.ev,CV.ev,Sc.ev,qz,QA,QB,QC,QD,QE,QF,QG,QH,QI,QJ,QK,QL,QM,Nat.reduceAdd,qy3,qy4,Z2e,Z2f,Zn];refine⟨fun vs=>∃(v1:Value) (i:Nat),vs=[.v v1,.r (((us.take i).map fun x=>((n,x):Opt)).map encO),.i i]/\i<=us.length,fun vs=>(us.length - (vs.getD 2 (.i 0)).toI).toNat,⟨_,0,rfl,by omega⟩,?_⟩;rintro _ - ⟨v1,j,rfl,hj⟩;simp only[Tree.goal,X.P,X.ev,SV.ev,CV.ev,Sc.ev,qz,QA,QB,QC,QD,QE,QF,QG,QH,QI,QJ,QK,QL,QM,Nat.reduceAdd,qy3,qy4,Z2e,Z2f,Zn];refine⟨fun h3=>?_,fun h3 w3 hr=>?_⟩
 ·(repeat refine⟨by omega,?_⟩)
  intro v2;refine⟨by simp;omega,fun v3=>⟨by omega,by omega,⟨v3,j+1,?_,by omega⟩,by omega⟩⟩;rw[List.take_add_one,List.map_append,List.map_append,qy7 (by omega),qy1,qy7 (by omega)];rfl
 ·have:j=us.length:=by omega
  subst this;rw[List.take_length]at hr;refine(Z10t w3 u' v1 R _ i (hr.at_ 1 rfl) (hr.at_ 0 rfl) (fun k h5 h6=>hr.sep.disj (i:=1) (j:=0) rfl rfl (by omega) (.inl rfl) (k:=k) h5 h6) hi hRl (by simpa using hul)).mono ?_;rintro e w4 ⟨v',rfl,g1,g2,g3⟩;refine⟨[.v v',.r ((R.take i++(us.map fun x=>((n,x):Opt))++R.drop i).map encO)],rfl,rfl,g3.mono fun k hk=>.inl (by unfold Zr;exact List.mem_append_right _ (Zkr (i:=28) (by simp) (Option.mem_toList.1 hk))),qy5 _,qy2.2 ⟨⟨g1,fun k hk=>?_⟩,qy5 _⟩,Z3,?_⟩
  ·rcases g2 k hk with h5|h5
   ·exact .inr (.inr (Zkr (i:=28) (by simp) h5))
   ·exact .inl h5
  ·intro w5 hr5;refine⟨v',rfl,?_,hr5.fresh 0 rfl,hr5.mod⟩;have:=(hr5.at_ 0 rfl).reads;rw[e1,e2]at this;rw[Z49,Zyj,hN];exact this
end Go.Proofs.YtkhakgbnfapifaaGreatDoor
namespace Go.Proofs
open Go.Shelf
def Tryz.lays144_ren:Go.Shelf.Ren:=⟨fun|144=>226|143=>281|219=>316|217=>340|225=>341|224=>342|267=>343|266=>353|314=>354|n=>n,fun|9=>9|4=>4|3=>3|5=>5|46=>207|146=>345|51=>297|n=>n,fun|1=>0|n=>n⟩
theorem Tryz.lays144:Go.Proofs.Lays.n144 Tryz.prog Tryz.lays144_ren:={
 mixed:=by kernel_rfl
 f143:=Tryz.func281.trans (congrArg some (by kernel_rfl))
 f144:=Tryz.func226.trans (congrArg some (by kernel_rfl))
 f217:=Tryz.func340.trans (congrArg some (by kernel_rfl))
 f219:=Tryz.func316.trans (congrArg some (by kernel_rfl))
 f224:=Tryz.func342.trans (congrArg some (by kernel_rfl))
 f225:=Tryz.func341.trans (congrArg some (by kernel_rfl))
 f266:=Tryz.func353.trans (congrArg some (by kernel_rfl))
 f267:=Tryz.func343.trans (congrArg some (by kernel_rfl))
 f314:=Tryz.func354.trans (congrArg some (by kernel_rfl))
 t3:=Tryz.underlying3
 a3:=Tryz.isAgg3
 z3:=Tryz.sizeOf3
 v3:=Tryz.zeroValue3
 t4:=Tryz.underlying4
 a4:=Tryz.isAgg4
 z4:=Tryz.sizeOf4
 v4:=Tryz.zeroValue4
 t5:=Tryz.underlying5
 a5:=Tryz.isAgg5
 z5:=Tryz.sizeOf5
 v5:=Tryz.zeroValue5
 t9:=Tryz.underlying9
 a9:=Tryz.isAgg9
 z9:=Tryz.sizeOf9
 v9:=Tryz.zeroValue9
 t46:=Tryz.underlying207
 a46:=Tryz.isAgg207
 z46:=Tryz.sizeOf207
 v46:=Tryz.zeroValue207
 t51:=Tryz.underlying297
 a51:=Tryz.isAgg297
 z51:=Tryz.sizeOf297
 v51:=Tryz.zeroValue297
 t146:=Tryz.underlying345
 a146:=Tryz.isAgg345
 z146:=Tryz.sizeOf345
 v146:=Tryz.zeroValue345
 g1:=by kernel_rfl }
def Tryz.lays161_ren:Go.Shelf.Ren:=⟨fun|161=>300|231=>331|227=>324|233=>332|235=>333|228=>325|197=>336|151=>351|260=>352|152=>322|137=>348|119=>349|224=>342|225=>341|217=>340|266=>353|n=>n,fun|9=>9|4=>4|3=>3|5=>5|117=>317|116=>316|0=>0|124=>328|105=>331|21=>21|119=>348|46=>207|139=>351|138=>350|n=>n,fun|3=>1|4=>2|n=>n⟩
theorem Tryz.lays161:Go.Proofs.Lays.n161 Tryz.prog Tryz.lays161_ren:={
 mixed:=by kernel_rfl
 f119:=Tryz.func349.trans (congrArg some (by kernel_rfl))
 f137:=Tryz.func348.trans (congrArg some (by kernel_rfl))
 f151:=Tryz.func351.trans (congrArg some (by kernel_rfl))
 f152:=Tryz.func322.trans (congrArg some (by kernel_rfl))
 f161:=Tryz.func300.trans (congrArg some (by kernel_rfl))
 f197:=Tryz.func336.trans (congrArg some (by kernel_rfl))
 f217:=Tryz.func340.trans (congrArg some (by kernel_rfl))
 f224:=Tryz.func342.trans (congrArg some (by kernel_rfl))
 f225:=Tryz.func341.trans (congrArg some (by kernel_rfl))
 f227:=Tryz.func324.trans (congrArg some (by kernel_rfl))
 f228:=Tryz.func325.trans (congrArg some (by kernel_rfl))
 f231:=Tryz.func331.trans (congrArg some (by kernel_rfl))
 f233:=Tryz.func332.trans (congrArg some (by kernel_rfl))
 f235:=Tryz.func333.trans (congrArg some (by kernel_rfl))
 f260:=Tryz.func352.trans (congrArg some (by kernel_rfl))
 f266:=Tryz.func353.trans (congrArg some (by kernel_rfl))
 t0:=Tryz.underlying0
 a0:=Tryz.isAgg0
 z0:=Tryz.sizeOf0
 v0:=Tryz.zeroValue0
 t3:=Tryz.underlying3
 a3:=Tryz.isAgg3
 z3:=Tryz.sizeOf3
 v3:=Tryz.zeroValue3
 t4:=Tryz.underlying4
 a4:=Tryz.isAgg4
 z4:=Tryz.sizeOf4
 v4:=Tryz.zeroValue4
 t5:=Tryz.underlying5
 a5:=Tryz.isAgg5
 z5:=Tryz.sizeOf5
 v5:=Tryz.zeroValue5
 t9:=Tryz.underlying9
 a9:=Tryz.isAgg9
 z9:=Tryz.sizeOf9
 v9:=Tryz.zeroValue9
 t21:=Tryz.underlying21
 a21:=Tryz.isAgg21
 z21:=Tryz.sizeOf21
 v21:=Tryz.zeroValue21
 t46:=Tryz.underlying207
 a46:=Tryz.isAgg207
 z46:=Tryz.sizeOf207
 v46:=Tryz.zeroValue207
 t105:=Tryz.underlying331
 a105:=Tryz.isAgg331
 z105:=Tryz.sizeOf331
 v105:=Tryz.zeroValue331
 t116:=Tryz.underlying316
 a116:=Tryz.isAgg316
 z116:=Tryz.sizeOf316
 t117:=Tryz.underlying317
 a117:=Tryz.isAgg317
 z117:=Tryz.sizeOf317
 v117:=Tryz.zeroValue317
 t119:=Tryz.underlying348
 a119:=Tryz.isAgg348
 z119:=Tryz.sizeOf348
 t124:=Tryz.underlying328
 a124:=Tryz.isAgg328
 z124:=Tryz.sizeOf328
 v124:=Tryz.zeroValue328
 t138:=Tryz.underlying350
 a138:=Tryz.isAgg350
 z138:=Tryz.sizeOf350
 v138:=Tryz.zeroValue350
 t139:=Tryz.underlying351
 a139:=Tryz.isAgg351
 z139:=Tryz.sizeOf351
 v139:=Tryz.zeroValue351
 g3:=by kernel_rfl
 g4:=by kernel_rfl }
def Tryz.lays156_ren:Go.Shelf.Ren:=⟨fun|156=>227|165=>282|166=>283|169=>253|240=>317|241=>318|276=>344|277=>345|n=>n,fun|31=>155|9=>9|3=>3|4=>4|0=>0|20=>20|72=>260|76=>284|70=>258|37=>241|75=>283|127=>305|164=>336|5=>5|80=>266|n=>n,fun|n=>n⟩
theorem Tryz.lays156:Go.Proofs.Lays.n156 Tryz.prog Tryz.lays156_ren:={
 mixed:=by kernel_rfl
 f156:=Tryz.func227.trans (congrArg some (by kernel_rfl))
 f165:=Tryz.func282.trans (congrArg some (by kernel_rfl))
 f166:=Tryz.func283.trans (congrArg some (by kernel_rfl))
 f169:=Tryz.func253.trans (congrArg some (by kernel_rfl))
 f240:=Tryz.func317.trans (congrArg some (by kernel_rfl))
 f241:=Tryz.func318.trans (congrArg some (by kernel_rfl))
 f276:=Tryz.func344.trans (congrArg some (by kernel_rfl))
 f277:=Tryz.func345.trans (congrArg some (by kernel_rfl))
 t0:=Tryz.underlying0
 a0:=Tryz.isAgg0
 z0:=Tryz.sizeOf0
 v0:=Tryz.zeroValue0
 t3:=Tryz.underlying3
 a3:=Tryz.isAgg3
 z3:=Tryz.sizeOf3
 v3:=Tryz.zeroValue3
 t4:=Tryz.underlying4
 a4:=Tryz.isAgg4
 z4:=Tryz.sizeOf4
 v4:=Tryz.zeroValue4
 t9:=Tryz.underlying9
 a9:=Tryz.isAgg9
 z9:=Tryz.sizeOf9
 v9:=Tryz.zeroValue9
 t20:=Tryz.underlying20
 a20:=Tryz.isAgg20
 z20:=Tryz.sizeOf20
 v20:=Tryz.zeroValue20
 t31:=Tryz.underlying155
 a31:=Tryz.isAgg155
 z31:=Tryz.sizeOf155
 v31:=Tryz.zeroValue155
 t37:=Tryz.underlying241
 a37:=Tryz.isAgg241
 z37:=Tryz.sizeOf241
 v37:=Tryz.zeroValue241
 t70:=Tryz.underlying258
 a70:=Tryz.isAgg258
 z70:=Tryz.sizeOf258
 v70:=Tryz.zeroValue258
 t72:=Tryz.underlying260
 a72:=Tryz.isAgg260
 z72:=Tryz.sizeOf260
 v72:=Tryz.zeroValue260
 t75:=Tryz.underlying283
 a75:=Tryz.isAgg283
 z75:=Tryz.sizeOf283
 v75:=Tryz.zeroValue283
 t76:=Tryz.underlying284
 a76:=Tryz.isAgg284
 z76:=Tryz.sizeOf284
 v76:=Tryz.zeroValue284
 t127:=Tryz.underlying305
 a127:=Tryz.isAgg305
 z127:=Tryz.sizeOf305
 v127:=Tryz.zeroValue305
 t164:=Tryz.underlying336
 a164:=Tryz.isAgg336
 z164:=Tryz.sizeOf336
 v164:=Tryz.zeroValue336 }
end Go.Proofs
namespace Go.Proofs.YtkhakgbnfapifaaGreatDoor
open Go.Sx
theorem Zym (w:World) (s:List UInt8):Calls Tryz.prog 300 #[.string ⟨s.toArray⟩,.string ⟨#[0]⟩] w fun e w'=>e=.returned (.string ⟨(s.dropWhile fun c=>c == 0).toArray⟩)/\Mod [] w w':=by refine(Z2 (Any.strings_TrimLeft_one Tryz.lays161 ⟨s.toArray⟩ 0 (by decide) w) rfl).mono ?_;rintro e w' ⟨rfl,rfl⟩;exact⟨rfl,Mod.refl _ _⟩
theorem Zqq (s:List UInt8) (c:UInt8):decide (0<=Go.Lib.indexByte s c)=s.any fun b=>b == c:=by rw[<- Go.Lib.contains_iff_indexByte,Bool.eq_iff_iff];simp only[List.contains_iff_mem,List.any_eq_true,beq_iff_eq];exact⟨fun h=>⟨c,h,rfl⟩,fun ⟨x,h,e⟩=>e▸h⟩
theorem Z12r (w:World) (s:List UInt8):Calls Tryz.prog 226 #[.string ⟨s.toArray⟩,.string ⟨#[47]⟩] w fun e w'=>e=.returned (.bool (s.any fun c=>c == 47))/\Mod [] w w':=by refine(Z2 (Any.strings_Contains_one Tryz.lays144 ⟨s.toArray⟩ 47 w) rfl).mono ?_;rintro e w' ⟨rfl,rfl⟩;exact⟨by rw[<- Zqq],Mod.refl _ _⟩
theorem Zwb:Builder.Extra Tryz.prog Tryz.lays156_ren where
 sizeBuilder:=by kernel_rfl
 liesBuilder:=by kernel_rfl
 t5:=Tryz.underlying5
 a5:=Tryz.isAgg5
 z5:=Tryz.sizeOf5
 v5:=Tryz.zeroValue5
 infoByte:=by kernel_rfl
 cellsByte:=by kernel_rfl
 sizeByte:=by kernel_rfl
 neB5:=by decide
theorem Z9f:∀ps:List (List UInt8),Go.Lib.join ps [47]=Z4p ps
 | []=>rfl
 | [x]=>Go.Lib.join_one x [47]
 | x::y::r=>by have:=Z9f (y::r);rw[Go.Lib.join_cons]at this ⊢;rw[Z4p,<- this];simp[Go.Lib.joinTail]
theorem Zh8:∀ps:List (List UInt8),(ps.map Z1f).flatten=ps.map fun p=>Value.string ⟨p.toArray⟩
 | []=>rfl
 | p::ps=>by simp only[List.map_cons,List.flatten_cons,Zh8 ps];rfl
theorem Zus (w:World) (v:Value) (ps:List (List UInt8)) (hv:owns w v 9 [.str] (ps.map Z1f)) (hl:ps.length<=140737488355328) (hb:(Z4p ps).length<=140737488355328) : Calls Tryz.prog 227 #[sc1 v,.string ⟨#[47]⟩] w fun e w'=>e=.returned (.string ⟨(Z4p ps).toArray⟩)/\Mod [] w w':=by
 rw[hv.reads.sc1];obtain⟨hk,hlen,ho⟩:=hv;rcases ho with ⟨rfl,hn⟩|⟨g,c,cur,rfl,-,hg,hnc,hcm,hcs,htk⟩
 ·have:ps=[]:=by simpa using hn
  subst this;refine(Z2 (Any.strings_Join_none Tryz.lays156 Zwb none 0 ⟨#[47]⟩ w) rfl).mono ?_;rintro e w' ⟨rfl,rfl⟩;exact⟨rfl,Mod.refl _ _⟩
 ·have hgs:g<w.heap.size:=by
   have:=(Array.getElem?_eq_some_iff.1 hg).1;exact this
  have e1:(ps.map fun p=>(⟨p.toArray⟩:ByteArray)).map (fun x=>x.data.toList)=ps:=by simp[List.map_map,Function.comp_def]
  have hfl:(ps.map Z1f).flatten=ps.map fun p=>Value.string ⟨p.toArray⟩:=by exact Zh8 ps
  rw[hfl]at htk;have:=Any.strings_Join Tryz.lays156 Zwb g 0 c (ps.map fun p=>(⟨p.toArray⟩:ByteArray)) ⟨#[47]⟩ w (fun j x hj=>?_) hgs (by simpa using hl) (by simpa using hnc) (by rw[e1];show (Go.Lib.join ps [47]).length<=_;rw[Z9f];exact hb)
  ·rw[e1,show (⟨#[47]⟩:ByteArray).data.toList=[47] from rfl,Z9f,qy3]at this;rw[qy3];refine(Z2 this rfl).mono ?_;rintro e w' ⟨rfl,h⟩;exact⟨rfl,Mod.of_below h⟩
  ·rw[List.getElem?_map,Option.map_eq_some_iff]at hj;obtain⟨p,hp,rfl⟩:=hj;have h1:=congrArg (fun l=>l[j]?) htk;simp only[List.getElem?_map,hp,Option.map_some]at h1;rw[List.getElem?_take_of_lt (by have:=(List.getElem?_eq_some_iff.1 hp).1;simpa using this)]at h1;simp only[World.cell?,hg,Nat.zero_add];simpa using h1
theorem Z9g (w:World) (n:Int) (h:0<=n/\n<=16777215):Calls Tryz.prog 243 #[.int .i64 n] w fun e w'=>e=.returned (.string ⟨(Z2t n).toArray⟩)/\Mod [] w w':=by refine Z2 (Zb (ρ:=[.i n]) sxE_ok Tryz.func243 Z91 rfl rfl rfl ?_) rfl;simp only[Tree.goal,X.P,X.ev,SV.ev,CV.ev,Sc.ev,qz,QA,QB,QC,QD,QE,QF,QG,QH,QI,QJ,QK,QL,QM,Nat.reduceAdd];refine⟨[.s (numB 3 n)],rfl,fun _ w' _=>Zy4 w' n 3 (by omega) (by omega) (by omega),?_⟩;simp only[Tree.goal,X.P,X.ev,SV.ev,CV.ev,Sc.ev,qz,QA,QB,QC,QD,QE,QF,QG,QH,QI,QJ,QK,QL,QM,Nat.reduceAdd];refine⟨[.s (Z2t n)],rfl,fun _ w' _=>Zym w' _,?_⟩;simp only[Tree.goal,X.P,X.ev,SV.ev,CV.ev,Sc.ev,qz,QA,QB,QC,QD,QE,QF,QG,QH,QI,QJ,QK,QL,QM,Nat.reduceAdd];exact fun w' hr=>⟨by trivial,hr.mod⟩
theorem Z7x:∀l:List UInt8,(l.dropWhile fun c=>c == 0).length<=l.length
 | []=>Nat.le_refl _
 | c::l=>by have:=Z7x l;rw[List.dropWhile_cons];split<;>simp only[List.length_cons]<;>omega
theorem Zqr (n:Int) (os:List Opt) (i:Nat) (h:i<os.length):Zi n (os.take (i+1))=Zi n (os.take i)++(if (os.getD i oD).1=n then [(os.getD i oD).2] else []):=by
 rw[Zyk os i h,Zkp];generalize os.getD i oD=o
 by_cases h1:o.1=n<;>simp[Zi,h1]
theorem Zkt (n:Int) (os:List Opt):(Zi n os).length<=os.length:=by rw[Zi,qy3];exact List.length_filter_le _ _
theorem Zmu {n:Int} {os:List Opt} {i:Nat} (h:i<os.length) (h1:∀j,j<i->(os.getD j oD).1≠n) (h2:(os.getD i oD).1=n):∃r,Zi n os=(os.getD i oD).2::r:=by
 have e:os=os.take i++os.drop i:=(List.take_append_drop i os).symm;have e0:Zi n (os.take i)=[]:=by refine Zh7 fun o ho=>?_;obtain⟨j,hj,rfl⟩:=List.getElem_of_mem ho;simp only[List.length_take]at hj;have:=h1 j (by omega);rw[qy1,qy7 (by omega)]at this;rw[List.getElem_take];exact this
 have e1:Zi n (os.drop i)=(os.getD i oD).2::Zi n (os.drop (i+1)):=by
  rw[Z10r os i h];generalize os.getD i oD=o at h2
  simp[Zi,List.filter_cons,h2]
 exact⟨_,by rw[e,Zkp,<- e,e0,e1];rfl⟩
theorem Zut {n:Int} {os:List Opt} (h:∀j,j<os.length->(os.getD j oD).1≠n):Zi n os=[]:=by refine Zh7 fun o ho=>?_;obtain⟨j,hj,rfl⟩:=List.getElem_of_mem ho;have:=h j hj;rwa [qy1,qy7 hj]at this
theorem Zuu (w:World) (m:Msg) (v:Value) (n:Int) (hv:Z49 w v m.opts) (hl:m.opts.length<1000000000) : Calls Tryz.prog 184 #[mV m (sc1 v),.int .i64 n] w fun e w'=>e=.returned (.tuple #[.int .i64 (Z79 n m.opts).1,.int .i64 (Z79 n m.opts).2])/\Mod [] w w':=by
 refine Z2 (Z4 (ρ:=[.i m.kind,.i m.code,.i m.id,.s m.tok,.v v,.r (m.opts.map encO),.s m.pay,.i n]) sxE_ok Tryz.func184 Z82 rfl rfl (Rel.start2 (by simp[Ent.holds,Ent.wr,hv,X.ev])) rfl rfl ?_) rfl;simp only[Tree.goal,X.P,X.ev,SV.ev,CV.ev,Sc.ev,qz,QA,QB,QC,QD,QE,QF,QG,QH,QI,QJ,QK,QL,QM,Nat.reduceAdd,qy3,qy4,Z2e,Z2f,Zn];intro b1 b2;generalize m.opts=os at hl ⊢
 refine⟨fun vs=>∃(x:V) (i:Nat),vs=[x,.i i,.i n]/\i<=os.length/\∀j,j<i->(os.getD j oD).1≠n,fun vs=>(os.length - (vs.getD 1 (.i 0)).toI).toNat,⟨_,0,rfl,by omega,fun j hj=>by omega⟩,?_⟩;rintro _ - ⟨x,i,rfl,hi,hn⟩;simp only[Tree.goal,X.P,X.ev,SV.ev,CV.ev,Sc.ev,qz,QA,QB,QC,QD,QE,QF,QG,QH,QI,QJ,QK,QL,QM,Nat.reduceAdd,qy3,qy4,Z2e,Z2f,Zn];refine⟨fun h1=>?_,fun h1 w' hr=>⟨?_,hr.mod⟩⟩
 ·(repeat refine⟨by omega,?_⟩)
  intro b3;refine⟨fun h2=>?_,fun h2=>?_⟩
  ·obtain⟨r,e⟩:=Zmu (by omega) hn h2;have eu:Z79 n os=Ziu (os.getD i oD).2:=by rw[Z79,e]
   rw[eu];generalize (os.getD i oD).2=s
   refine⟨fun h3=>by omega,fun _=>⟨fun h3 w' hr=>⟨by rw[Ziu,if_pos h3],hr.mod⟩,fun h3=>⟨fun h4 w' hr=>⟨by subst h4;rfl,hr.mod⟩,fun h4=>?_⟩⟩⟩;have eg:getR s 0 s.length=Ziu s:=by have:=List.length_pos_iff.2 h4;rw[getR,if_pos (by omega),if_pos (by omega),if_neg (by omega),Ziu,if_neg h3];simp
   refine⟨[.i (Ziu s).1,.i (Ziu s).2],rfl,fun _ w' _=>?_,?_⟩
   ·have:=Zy8 w' s 0 s.length (by omega);rw[eg]at this;exact this
   ·simp only[Tree.goal,X.P,X.ev,SV.ev,CV.ev,Sc.ev,qz,QA,QB,QC,QD,QE,QF,QG,QH,QI,QJ,QK,QL,QM,Nat.reduceAdd];exact fun w' hr=>⟨by trivial,hr.mod⟩
  ·(repeat refine⟨by omega,?_⟩)
   refine⟨⟨_,i+1,rfl,by omega,fun j hj=>?_⟩,by omega⟩;by_cases hji:j=i
   ·subst hji;exact h2
   ·exact hn j (by omega)
 ·rw[Z79,Zut fun j hj=>hn j (by omega)]
theorem Zc0 (b:Nat):∀(l:List (List UInt8)),(∀x∈l,x.length<=b)->(Z4p l).length<=l.length*(b+1)
 | [],_=>by simp[Z4p]
 | [y],h=>by have:=h y (by simp);simp[Z4p];omega
 | y::z::l,h=>by have h1:=Zc0 b (z::l) fun x hx=>h x (qy10 _ hx);have h2:=h y (by simp);simp only[Z4p,qy11,List.length_cons,Nat.add_mul]at h1 ⊢;omega
theorem Zku:∀{os:List Opt} {was:Int},optE was os=0->∀o∈os,o.2.length<=60
 | [],_,_,o,ho=>by simp at ho
 | x::os,was,h,o,ho=>by
  obtain⟨-,-,h3,h4⟩:=Zqm.1 h;rcases List.mem_cons.1 ho with rfl|ho
  ·exact h3
  ·exact Zku h4 o ho
theorem Zuv {n:Int} {os:List Opt} {x:List UInt8} (h:x∈Zi n os):∃o∈os,o.2=x:=by simp only[Zi,List.mem_map,List.mem_filter]at h;obtain⟨o,⟨h1,-⟩,h2⟩:=h;exact⟨o,h1,h2⟩
theorem Zqs {os:List Opt} (h:Zi 11 os=[]):Z24 os=([],5):=if_pos h
theorem Zuw {os:List Opt} (h:¬Zi 11 os=[]) (h1:¬chkT (Z4p (Zi 11 os)) false=0):Z24 os=([],chkT (Z4p (Zi 11 os)) false):=by rw[Z24,if_neg h,if_neg h1]
theorem Zqt {os:List Opt} (h:¬Zi 11 os=[]) (h1:chkT (Z4p (Zi 11 os)) false=0) (h2:(Zi 11 os).any (fun v=>v.any fun c=>c == 47)=true):Z24 os=([],1):=by rw[Z24,if_neg h,if_pos h1,if_pos h2]
theorem Zqu {os:List Opt} (h:¬Zi 11 os=[]) (h1:chkT (Z4p (Zi 11 os)) false=0) (h2:¬(Zi 11 os).any (fun v=>v.any fun c=>c == 47)=true):Z24 os=(Z4p (Zi 11 os),0):=by rw[Z24,if_neg h,if_pos h1,if_neg h2]
theorem Zux (w:World) (m:Msg) (v:Value) (hv:Z49 w v m.opts) (hc:chk m=0) : Calls Tryz.prog 169 #[mV m (sc1 v)] w fun e w'=>e=.returned (.tuple #[.string ⟨(Z24 m.opts).1.toArray⟩,.int .i64 (Z24 m.opts).2])/\Mod [] w w':=by
 obtain⟨-,-,hl,ho,-⟩:=Zwa.1 hc;refine Z2 (Z4 (ρ:=[.i m.kind,.i m.code,.i m.id,.s m.tok,.v v,.r (m.opts.map encO),.s m.pay]) sxE_ok Tryz.func169 Z7z rfl rfl (Rel.start2 (by simp[Ent.holds,Ent.wr,hv,X.ev])) rfl rfl ?_) rfl;simp only[Tree.goal,X.P,X.ev,SV.ev,CV.ev,Sc.ev,qz,QA,QB,QC,QD,QE,QF,QG,QH,QI,QJ,QK,QL,QM,Nat.reduceAdd,qy3,qy4,Z2e,Z2f,Zn];intro b1;replace hl:=hl.2.1;generalize m.opts=os at hl ho ⊢
 have hvl:=Zkt 11 os;have hul:(Z4p (Zi 11 os)).length<=12*61:=Nat.le_trans (Zc0 60 _ fun x hx=>by obtain⟨o,h1,rfl⟩:=Zuv hx;exact Zku ho o h1) (by omega);refine⟨fun vs=>∃(s:Value) (i:Nat),vs=[.v s,.r ((Zi 11 (os.take i)).map Z1f),.b ((Zi 11 (os.take i)).any fun v=>v.any fun c=>c == 47),.i i]/\i<=os.length,fun vs=>(os.length - (vs.getD 3 (.i 0)).toI).toNat,⟨_,0,rfl,by omega⟩,?_⟩;rintro _ - ⟨s,i,rfl,hi⟩;simp only[Tree.goal,X.P,X.ev,SV.ev,CV.ev,Sc.ev,qz,QA,QB,QC,QD,QE,QF,QG,QH,QI,QJ,QK,QL,QM,Nat.reduceAdd,qy3,qy4,Z2e,Z2f,Zn];refine⟨fun h1=>?_,fun h1=>?_⟩
 ·have hs:=Zqr 11 os i (by omega);have hvi:=Zkt 11 (os.take i);rw[List.length_take]at hvi
  (repeat refine⟨by omega,?_⟩)
  intro b2;refine⟨fun h2 v1=>⟨by simp;omega,fun v2=>?_⟩,fun h2=>?_⟩
  ·rw[if_pos h2]at hs;refine⟨[.b ((os.getD i oD).2.any fun c=>c == 47)],rfl,fun _ w' _=>Z12r w' _,?_⟩;simp only[Tree.goal,X.P,X.ev,SV.ev,CV.ev,Sc.ev,qz,QA,QB,QC,QD,QE,QF,QG,QH,QI,QJ,QK,QL,QM,Nat.reduceAdd,qy3,qy4,Z2e,Z2f,Zn];refine⟨by omega,by omega,⟨v2,i+1,?_,by omega⟩,by omega⟩;rw[hs];simp[Z1f]
  ·rw[if_neg h2,List.append_nil]at hs
   (repeat refine⟨by omega,?_⟩)
   exact⟨⟨s,i+1,by rw[hs];rfl,by omega⟩,by omega⟩
 ·have:i=os.length:=by omega
  subst this;rw[List.take_length];refine⟨fun h2 w' hr=>⟨?_,hr.mod⟩,fun h2=>?_⟩
  ·rw[Zqs (List.length_eq_zero_iff.1 (by omega))]
  have h2:¬Zi 11 os=[]:=fun h=>h2 (by rw[h];rfl);refine⟨[.s (Z4p (Zi 11 os))],rfl,fun _ w' hr=>Zus w' s _ (hr.at_ 0 rfl) (by omega) (by omega),?_⟩;simp only[Tree.goal,X.P,X.ev,SV.ev,CV.ev,Sc.ev,qz,QA,QB,QC,QD,QE,QF,QG,QH,QI,QJ,QK,QL,QM,Nat.reduceAdd];refine⟨[.i (chkT (Z4p (Zi 11 os)) false)],rfl,fun _ w' hr=>Zdk w' _ (by omega),?_⟩;simp only[Tree.goal,X.P,X.ev,SV.ev,CV.ev,Sc.ev,qz,QA,QB,QC,QD,QE,QF,QG,QH,QI,QJ,QK,QL,QM,Nat.reduceAdd];refine⟨fun h3=>⟨fun _ w' hr=>⟨?_,hr.mod⟩,fun h=>(h (by decide)).elim⟩,fun h3=>⟨fun h4 w' hr=>⟨?_,hr.mod⟩,fun h4 w' hr=>⟨?_,hr.mod⟩⟩⟩
  ·rw[Zqt h2 h3.1 h3.2]
  ·rw[Zuw h2 h4]
  ·have h4:=qy9.1 h4;rw[Zqu h2 h4 fun h=>h3 ⟨h4,h⟩]
def Z10u (n:Nat) (v:Value) (os:List Opt):Prop:=∀k,(os.map encO).flatten≠[]/\Z1 v k->n<=k
def mGet:Msg:=⟨0,1,258,[116],[(6,[]),(11,[97]),(11,[98])],[]⟩
theorem Zyn (w:World):Calls Tryz.prog 64 #[] w fun e w'=>∃v,e=.returned (mV mGet (sc1 v))/\Z49 w' v mGet.opts/\Z10u w.heap.size v mGet.opts/\Mod [] w w':=by
 refine Z2 (Zb (ρ:=[]) sxE_ok Tryz.func64 Z6k rfl rfl rfl ?_) rfl;simp only[Tree.goal,X.P,X.ev,SV.ev,CV.ev,Sc.ev,qz,QA,QB,QC,QD,QE,QF,QG,QH,QI,QJ,QK,QL,QM,Nat.reduceAdd];intro b v w' hr;refine⟨v,rfl,owns.reads (hr.at_ 0 rfl),fun k hk=>?_,hr.mod⟩;rcases hr.own _ (qy8 ..) rfl k hk.2 with h|h
 ·exact h
 ·simp at h
theorem Zqv {ρ:List V} {es:List Ent} (h:∀e∈es,e.wr=false):Z2q ρ es:=by refine List.pairwise_iff_forall_sublist.2 fun {a b} hs hw=>?_;have h1:=h a (hs.subset (by simp));have h2:=h b (hs.subset (by simp));rw[h1,h2]at hw;simp at hw
section
variable (w:World) (p:Pkt) (u v:Value) (hu:Z6t w u p.asks) (hv:Z60 w v p.codes) (hs:SmallP p)
include hu hv
theorem Zyo:Calls Tryz.prog 121 #[pV p u v] w fun e w'=>∃x y,e=.returned (pV (Z2y p) x y)/\Z6t w' x (Z2y p).asks/\Z60 w' y (Z2y p).codes /\ (x=u/\(Z2y p).asks=p.asks\/(Z2y p).asks=[])/\(y=v/\(Z2y p).codes=p.codes\/(Z2y p).codes=[])/\Mod [] w w':=by
 refine Z2 (Z4 (ρ:=[.i p.kind,.b p.dup,.b p.retain,.b p.clean,.b p.session,.i p.qos,.i p.id,.i p.keep,.i p.code,.s p.client,.s p.topic,.s p.payload,.v u,.r (p.asks.map encA),.v v,.r (p.codes.map Z1b)]) sxE_ok Tryz.func121 Za6 rfl rfl (Rel.start2 (by simp[Ent.holds,Ent.wr,hu,hv,X.ev])) rfl rfl ?_) rfl;simp only[Tree.goal,X.P,X.ev,SV.ev,CV.ev,Sc.ev,qz,QA,QB,QC,QD,QE,QF,QG,QH,QI,QJ,QK,QL,QM,Nat.reduceAdd];intro b1 b2;have g4:∀q:Pkt,q.kind=p.kind->p.kind≠1->p.kind≠2->p.kind≠3->(p.kind=4\/p.kind=11)->Z2y p={ p with id:=0 }:=fun q _ h1 h2 h3 h=>by rw[Z2y,if_neg h1,if_neg h2,if_neg h3,if_pos h]
 have g8:p.kind≠1->p.kind≠2->p.kind≠3->¬(p.kind=4\/p.kind=11)->(p.kind=8\/p.kind=10)->Z2y p={ p with id:=0,asks:=[] }:=fun h1 h2 h3 h4 h=>by rw[Z2y,if_neg h1,if_neg h2,if_neg h3,if_neg h4,if_pos h]
 refine⟨fun h1 w' hr=>?_,fun h1=>⟨fun h2 w' hr=>?_,fun h2=>⟨fun h3 w' hr=>?_,fun h3=>⟨fun h4 w' hr=>?_,fun h4=>⟨fun h5 w' hr=>?_,fun h5=>⟨fun h6 w' hr=>?_,fun h6=>⟨fun h7 w' hr=>?_,fun h7=>⟨fun h8 w' hr=>?_,fun h8 w' hr=>?_⟩⟩⟩⟩⟩⟩⟩⟩
 ·have e:Z2y p={ p with client:=[],clean:=false,keep:=0 }:=by rw[Z2y,if_pos h1]
  rw[e];exact⟨u,v,rfl,hr.at_ 2 rfl,hr.at_ 3 rfl,.inl ⟨rfl,rfl⟩,.inl ⟨rfl,rfl⟩,hr.mod⟩
 ·have e:Z2y p={ p with code:=0,session:=false }:=by rw[Z2y,if_neg h1,if_pos h2]
  rw[e];exact⟨u,v,rfl,hr.at_ 2 rfl,hr.at_ 3 rfl,.inl ⟨rfl,rfl⟩,.inl ⟨rfl,rfl⟩,hr.mod⟩
 ·have e:Z2y p={ p with dup:=false,qos:=0,retain:=false,topic:=[],payload:=[],id:=0 }:=by rw[Z2y,if_neg h1,if_neg h2,if_pos h3]
  rw[e];exact⟨u,v,rfl,hr.at_ 2 rfl,hr.at_ 3 rfl,.inl ⟨rfl,rfl⟩,.inl ⟨rfl,rfl⟩,hr.mod⟩
 ·rw[g4 p rfl h1 h2 h3 (.inl h4)];exact⟨u,v,rfl,hr.at_ 2 rfl,hr.at_ 3 rfl,.inl ⟨rfl,rfl⟩,.inl ⟨rfl,rfl⟩,hr.mod⟩
 ·rw[g4 p rfl h1 h2 h3 (.inr h5)];exact⟨u,v,rfl,hr.at_ 2 rfl,hr.at_ 3 rfl,.inl ⟨rfl,rfl⟩,.inl ⟨rfl,rfl⟩,hr.mod⟩
 ·rw[g8 h1 h2 h3 (by omega) (.inl h6)];exact⟨.slice none 0 0,v,rfl,Zdx _,hr.at_ 3 rfl,.inr rfl,.inl ⟨rfl,rfl⟩,hr.mod⟩
 ·rw[g8 h1 h2 h3 (by omega) (.inr h7)];exact⟨.slice none 0 0,v,rfl,Zdx _,hr.at_ 3 rfl,.inr rfl,.inl ⟨rfl,rfl⟩,hr.mod⟩
 ·have e:Z2y p={ p with id:=0,codes:=[] }:=by rw[Z2y,if_neg h1,if_neg h2,if_neg h3,if_neg (by omega),if_neg (by omega),if_pos h8]
  rw[e];exact⟨u,.slice none 0 0,rfl,hr.at_ 2 rfl,Zml _,.inl ⟨rfl,rfl⟩,.inr rfl,hr.mod⟩
 ·have e:Z2y p=p:=by rw[Z2y,if_neg h1,if_neg h2,if_neg h3,if_neg (by omega),if_neg (by omega),if_neg h8]
  rw[e];exact⟨u,v,rfl,hr.at_ 2 rfl,hr.at_ 3 rfl,.inl ⟨rfl,rfl⟩,.inl ⟨rfl,rfl⟩,hr.mod⟩
include hs
theorem Zao:Calls Tryz.prog 125 #[pV p u v] w fun e w'=>e=.returned (.int .i64 (Z37 p))/\Mod [] w w':=by
 refine Z2 (Z4 (ρ:=[.i p.kind,.b p.dup,.b p.retain,.b p.clean,.b p.session,.i p.qos,.i p.id,.i p.keep,.i p.code,.s p.client,.s p.topic,.s p.payload,.v u,.r (p.asks.map encA),.v v,.r (p.codes.map Z1b)]) sxE_ok Tryz.func125 Z96 rfl rfl (Rel.start2 (by simp[Ent.holds,Ent.wr,hu,hv,X.ev])) rfl rfl ?_) rfl;simp only[Tree.goal,X.P,X.ev,SV.ev,CV.ev,Sc.ev,qz,QA,QB,QC,QD,QE,QF,QG,QH,QI,QJ,QK,QL,QM,Nat.reduceAdd];intro b;refine⟨fun h1=>?_,fun h1=>⟨fun h2=>?_,fun h2=>⟨fun h3=>?_,fun h3=>⟨fun h4=>?_,fun h4=>⟨fun h5=>?_,fun h5=>⟨fun h6=>?_,fun h6 w' hr=>⟨?_,hr.mod⟩⟩⟩⟩⟩⟩⟩
 ·refine⟨[.i (Zin p)],rfl,fun _ w' hr=>Zmn w' p u v (hr.at_ 1 rfl) (hr.at_ 2 rfl) hs,?_⟩;simp only[Tree.goal,X.P,X.ev,SV.ev,CV.ev,Sc.ev,qz,QA,QB,QC,QD,QE,QF,QG,QH,QI,QJ,QK,QL,QM,Nat.reduceAdd];exact fun w' hr=>⟨by rw[Z37,if_pos h1],hr.mod⟩
 ·refine⟨[.i (Z6e p)],rfl,fun _ w' hr=>Zmm w' p u v (hr.at_ 1 rfl) (hr.at_ 2 rfl),?_⟩;simp only[Tree.goal,X.P,X.ev,SV.ev,CV.ev,Sc.ev,qz,QA,QB,QC,QD,QE,QF,QG,QH,QI,QJ,QK,QL,QM,Nat.reduceAdd];exact fun w' hr=>⟨by rw[Z37,if_neg h1,if_pos h2],hr.mod⟩
 ·refine⟨[.i (pubE p)],rfl,fun _ w' hr=>Zdy w' p u v (hr.at_ 1 rfl) (hr.at_ 2 rfl) hs,?_⟩;simp only[Tree.goal,X.P,X.ev,SV.ev,CV.ev,Sc.ev,qz,QA,QB,QC,QD,QE,QF,QG,QH,QI,QJ,QK,QL,QM,Nat.reduceAdd];exact fun w' hr=>⟨by rw[Z37,if_neg h1,if_neg h2,if_pos h3],hr.mod⟩
 ·refine⟨[.i (Zgy p)],rfl,fun _ w' hr=>Zq5 w' p u v (hr.at_ 1 rfl) (hr.at_ 2 rfl) hs,?_⟩;simp only[Tree.goal,X.P,X.ev,SV.ev,CV.ev,Sc.ev,qz,QA,QB,QC,QD,QE,QF,QG,QH,QI,QJ,QK,QL,QM,Nat.reduceAdd];exact fun w' hr=>⟨by rw[Z37,if_neg h1,if_neg h2,if_neg h3,if_pos (.inl h4)],hr.mod⟩
 ·refine⟨[.i (Zgy p)],rfl,fun _ w' hr=>Zq5 w' p u v (hr.at_ 1 rfl) (hr.at_ 2 rfl) hs,?_⟩;simp only[Tree.goal,X.P,X.ev,SV.ev,CV.ev,Sc.ev,qz,QA,QB,QC,QD,QE,QF,QG,QH,QI,QJ,QK,QL,QM,Nat.reduceAdd];exact fun w' hr=>⟨by rw[Z37,if_neg h1,if_neg h2,if_neg h3,if_pos (.inr h5)],hr.mod⟩
 ·refine⟨[.i (Zgz p)],rfl,fun _ w' hr=>Zug w' p u v (hr.at_ 1 rfl) (hr.at_ 2 rfl) hs,?_⟩;simp only[Tree.goal,X.P,X.ev,SV.ev,CV.ev,Sc.ev,qz,QA,QB,QC,QD,QE,QF,QG,QH,QI,QJ,QK,QL,QM,Nat.reduceAdd];exact fun w' hr=>⟨by rw[Z37,if_neg h1,if_neg h2,if_neg h3,if_neg (by omega),if_pos h6],hr.mod⟩
 ·rw[Z37,if_neg h1,if_neg h2,if_neg h3,if_neg (by omega),if_neg h6]
theorem Zuy:Calls Tryz.prog 34 #[pV p u v] w fun e w'=>e=.returned (.int .i64 (chkP p))/\Mod [] w w':=by
 refine Z2 (Z4 (ρ:=[.i p.kind,.b p.dup,.b p.retain,.b p.clean,.b p.session,.i p.qos,.i p.id,.i p.keep,.i p.code,.s p.client,.s p.topic,.s p.payload,.v u,.r (p.asks.map encA),.v v,.r (p.codes.map Z1b)]) sxE_ok Tryz.func34 Z99 rfl rfl (Rel.start2 (by simp[Ent.holds,Ent.wr,hu,hv,X.ev])) rfl rfl ?_) rfl;simp only[Tree.goal,X.P,X.ev,SV.ev,CV.ev,Sc.ev,qz,QA,QB,QC,QD,QE,QF,QG,QH,QI,QJ,QK,QL,QM,Nat.reduceAdd];intro b;refine⟨[.b (Zmk p.kind)],rfl,fun _ w' _=>Zy9 w' _,?_⟩;simp only[Tree.goal,X.P,X.ev,SV.ev,CV.ev,Sc.ev,qz,QA,QB,QC,QD,QE,QF,QG,QH,QI,QJ,QK,QL,QM,Nat.reduceAdd];refine⟨fun h w' hr=>⟨by rw[chkP,if_neg h],hr.mod⟩,fun h=>?_⟩;have h:=qy9.1 h;rw[chkP,if_pos h];intro w1 hr;refine(Zyo w1 p u v (hr.at_ 1 rfl) (hr.at_ 2 rfl)).mono ?_;rintro e w2 ⟨x,y,rfl,rx,ry,ex,ey,m2⟩;generalize hq:Z2y p=q at rx ry ex ey ⊢
 have hsq:SmallP q:=by rw[<- hq];exact hs.bare
 refine⟨[.i q.kind,.b q.dup,.b q.retain,.b q.clean,.b q.session,.i q.qos,.i q.id,.i q.keep,.i q.code,.s q.client,.s q.topic,.s q.payload,.v x,.r (q.asks.map encA),.v y,.r (q.codes.map Z1b)],rfl,rfl,m2,qy5 _,qy2.2 ⟨⟨rx,fun k hk=>.inr (.inl ⟨rfl,?_⟩)⟩,qy2.2 ⟨⟨ry,fun k hk=>.inr (.inl ⟨rfl,?_⟩)⟩,qy5 _⟩⟩,Zqv (by simp[Ent.wr]),?_⟩
 ·rcases ex with ⟨rfl,e1⟩|e1
  ·refine⟨_,qy10 _ (qy8 ..),rfl,?_⟩;simp only[Ent.fp,Tree.goal,X.P,X.ev,SV.ev,CV.ev,Sc.ev,qz,QA,QB,QC,QD,QE,QF,QG,QH,QI,QJ,QK,QL,QM,Nat.reduceAdd]at hk ⊢;rw[e1]at hk;exact hk
  ·simp only[Ent.fp,Tree.goal,X.P,X.ev,SV.ev,CV.ev,Sc.ev,qz,QA,QB,QC,QD,QE,QF,QG,QH,QI,QJ,QK,QL,QM,Nat.reduceAdd,e1]at hk;exact absurd rfl hk.1
 ·rcases ey with ⟨rfl,e1⟩|e1
  ·refine⟨_,qy10 _ (qy10 _ (qy8 ..)),rfl,?_⟩;simp only[Ent.fp,Tree.goal,X.P,X.ev,SV.ev,CV.ev,Sc.ev,qz,QA,QB,QC,QD,QE,QF,QG,QH,QI,QJ,QK,QL,QM,Nat.reduceAdd]at hk ⊢;rw[e1]at hk;exact hk
  ·simp only[Ent.fp,Tree.goal,X.P,X.ev,SV.ev,CV.ev,Sc.ev,qz,QA,QB,QC,QD,QE,QF,QG,QH,QI,QJ,QK,QL,QM,Nat.reduceAdd,e1]at hk;exact absurd rfl hk.1
 simp only[Tree.goal,X.P,X.ev,SV.ev,CV.ev,Sc.ev,qz,QA,QB,QC,QD,QE,QF,QG,QH,QI,QJ,QK,QL,QM,Nat.reduceAdd];refine⟨[.b (Zgw q)],rfl,fun _ w' hr=>Zuf w' q x y (hr.at_ 0 rfl) (hr.at_ 1 rfl) hsq,?_⟩;simp only[Tree.goal,X.P,X.ev,SV.ev,CV.ev,Sc.ev,qz,QA,QB,QC,QD,QE,QF,QG,QH,QI,QJ,QK,QL,QM,Nat.reduceAdd];refine⟨fun h w' hr=>⟨by rw[if_neg h],hr.mod⟩,fun h=>?_⟩;have h:=qy9.1 h;rw[if_pos h];refine⟨fun h1=>?_,fun h1=>?_⟩
 ·refine⟨[.i (pubE p)],rfl,fun _ w' hr=>Zdy w' p u v (hr.at_ 3 rfl) (hr.at_ 4 rfl) hs,?_⟩;simp only[Tree.goal,X.P,X.ev,SV.ev,CV.ev,Sc.ev,qz,QA,QB,QC,QD,QE,QF,QG,QH,QI,QJ,QK,QL,QM,Nat.reduceAdd];refine⟨fun h2 w' hr=>⟨by rw[if_pos ⟨h1,h2⟩],hr.mod⟩,fun h2=>?_⟩;have hn:¬(p.kind=3/\pubE p≠0):=fun hh=>h2 hh.2;refine⟨[.b (idB p)],rfl,fun _ w' hr=>Z10o w' p u v (hr.at_ 3 rfl) (hr.at_ 4 rfl),?_⟩;simp only[Tree.goal,X.P,X.ev,SV.ev,CV.ev,Sc.ev,qz,QA,QB,QC,QD,QE,QF,QG,QH,QI,QJ,QK,QL,QM,Nat.reduceAdd];refine⟨fun h3=>⟨fun h4 w' hr=>⟨?_,hr.mod⟩,fun h4=>?_⟩,fun h3=>?_⟩;(· rw[if_neg (by assumption),if_pos ⟨h3,h4⟩]);(· rw[if_neg (by assumption),if_neg (fun hh=>h4 hh.2)];refine⟨[.i (Z37 p)],rfl,fun _ w' hr=>Zao w' p u v (hr.at_ 3 rfl) (hr.at_ 4 rfl) hs,?_⟩;simp only[Tree.goal,X.P,X.ev,SV.ev,CV.ev,Sc.ev,qz,QA,QB,QC,QD,QE,QF,QG,QH,QI,QJ,QK,QL,QM,Nat.reduceAdd];exact fun w' hr=>⟨by trivial,hr.mod⟩);(· rw[if_neg (by assumption),if_neg (fun hh=>h3 hh.1)];refine⟨[.i (Z37 p)],rfl,fun _ w' hr=>Zao w' p u v (hr.at_ 3 rfl) (hr.at_ 4 rfl) hs,?_⟩;simp only[Tree.goal,X.P,X.ev,SV.ev,CV.ev,Sc.ev,qz,QA,QB,QC,QD,QE,QF,QG,QH,QI,QJ,QK,QL,QM,Nat.reduceAdd];exact fun w' hr=>⟨by trivial,hr.mod⟩)
 ·have hn:¬(p.kind=3/\pubE p≠0):=fun hh=>h1 hh.1;refine⟨[.b (idB p)],rfl,fun _ w' hr=>Z10o w' p u v (hr.at_ 3 rfl) (hr.at_ 4 rfl),?_⟩;simp only[Tree.goal,X.P,X.ev,SV.ev,CV.ev,Sc.ev,qz,QA,QB,QC,QD,QE,QF,QG,QH,QI,QJ,QK,QL,QM,Nat.reduceAdd];refine⟨fun h3=>⟨fun h4 w' hr=>⟨?_,hr.mod⟩,fun h4=>?_⟩,fun h3=>?_⟩;(· rw[if_neg (by assumption),if_pos ⟨h3,h4⟩]);(· rw[if_neg (by assumption),if_neg (fun hh=>h4 hh.2)];refine⟨[.i (Z37 p)],rfl,fun _ w' hr=>Zao w' p u v (hr.at_ 3 rfl) (hr.at_ 4 rfl) hs,?_⟩;simp only[Tree.goal,X.P,X.ev,SV.ev,CV.ev,Sc.ev,qz,QA,QB,QC,QD,QE,QF,QG,QH,QI,QJ,QK,QL,QM,Nat.reduceAdd];exact fun w' hr=>⟨by trivial,hr.mod⟩);(· rw[if_neg (by assumption),if_neg (fun hh=>h3 hh.1)];refine⟨[.i (Z37 p)],rfl,fun _ w' hr=>Zao w' p u v (hr.at_ 3 rfl) (hr.at_ 4 rfl) hs,?_⟩;simp only[Tree.goal,X.P,X.ev,SV.ev,CV.ev,Sc.ev,qz,QA,QB,QC,QD,QE,QF,QG,QH,QI,QJ,QK,QL,QM,Nat.reduceAdd];exact fun w' hr=>⟨by trivial,hr.mod⟩)
end
end Go.Proofs.YtkhakgbnfapifaaGreatDoor
namespace Go.Proofs.YtkhakgbnfapifaaGreatDoor
open Go.Sx Go.RowKit
section
variable {P:Program} {w:World}
end
end Go.Proofs.YtkhakgbnfapifaaGreatDoor
namespace Go.Proofs.YtkhakgbnfapifaaGreatDoor
open Go.Sx
def byW (l:List UInt8):List (List Value):=l.map fun b=>[Value.int .u8 (b.toNat:Int)]
def okp (p:Value) (b:Nat):Prop:=p=.pointer none\/p=.pointer (some ⟨b,0,none⟩)
structure wrS (w:World) (b:Nat) (p q:Value) (l:List UInt8):Prop where
 cells:w.heap[b]?=some (.cells [Sx.sc1 p,Sx.sc1 q].toArray 262 (0,0))
 ok:okp p b
 own:owns w q 5 [.int .u8] (byW l)
def fpW (b:Nat) (q:Value):List Nat:=[b]++(q.ownBlock.toList++[])
def Zyp (w w':World) (b:Nat) (q:Value) (l:List UInt8):Prop :=
 ∃p' q',wrS w' b p' q' l/\Mod (fpW b q) w w'/\∀k,Z1 q' k->w.heap.size<=k\/k∈q.ownBlock.toList++[]
structure ByteP (p:Pkt):Prop where
 kind:0<=p.kind/\p.kind<=15
 qos:0<=p.qos/\p.qos<=3
 id:0<=p.id/\p.id<=65535
 keep:0<=p.keep/\p.keep<=65535
 code:0<=p.code/\p.code<=65535
 asks:∀a∈p.asks,0<=a.2/\a.2<=65535
 codes:∀c∈p.codes,0<=c/\c<=65535
 small:SmallP p
 body:(Z12h p).length<268435456
section
variable (w:World) (b:Nat) (p:Pkt) (u v:Value)
end
end Go.Proofs.YtkhakgbnfapifaaGreatDoor
namespace Go.Proofs.YtkhakgbnfapifaaGreatDoor
open Go.Sx
def pkOf (p:Pk):Pkt:={ pD_Q 3 with dup:=p.1,qos:=p.2.1,id:=p.2.2.1,topic:=p.2.2.2.1,payload:=p.2.2.2.2 }
structure Snt where
 client:List UInt8
 pk:Pkt
 peer:Int
 msg:Msg
abbrev toC (c:List UInt8) (p:Pkt):Snt:=⟨c,p,0,mNil⟩
abbrev toP (n:Int) (m:Msg):Snt:=⟨[],pD_Q 0,n,m⟩
structure Tel where
 kept:List Kp
 wants:List Wt
 sess:List Ses
 wat:List Wat
 next:Int
 out:List Snt
def idxS (l:List Ses) (c:List UInt8):Nat:=(l.filter fun s=>Zd s.cl c).length
def hasS (l:List Ses) (c:List UInt8):Bool:=decide (idxS l c<l.length/\(l.getD (idxS l c) s0).cl=c)
def Z41 (l:List Ses):Prop:=l.Pairwise fun a b=>Zd a.cl b.cl=true
def nx_Z (n:Int):Int:=(n+1) % 65536
def Z1c (n p:List UInt8) (q:Int) (t:Tel) (r:Rd):Tel :=
 { t with sess:=t.sess.set (idxS t.sess r.1) (Z2h (t.sess.getD (idxS t.sess r.1) s0) n p (min q r.2)).1,out:=t.out++(Z2h (t.sess.getD (idxS t.sess r.1) s0) n p (min q r.2)).2.map fun k=>toC r.1 (pkOf k) }
def putM (m:Msg) (n:Int):Msg:={ m with opts:=Zyj m.opts 6 [Z2t n] }
def Z4q (p:List UInt8) (t:Tel) (w:Wat):Tel:={ t with next:=nx_Z t.next,out:=t.out++[toP w.1 (putM ⟨1,69,t.next,w.2.1,[],p⟩ w.2.2.2)] }
def Z38 (n p:List UInt8) (q:Int) (t:Tel):Tel:=(rdOf n t.wants).foldl (Z1c n p q) t
def Z5q (n p:List UInt8) (q:Int) (t:Tel):Tel:=(Z33 n (Z38 n p q t).wat).foldl (Z4q p) { Z38 n p q t with wat:=Z2r n (Z38 n p q t).wat }
def Z9h (t:Tel) (w:Wat):Tel:={ t with next:=nx_Z t.next,out:=t.out++[toP w.1 ⟨1,132,t.next,w.2.1,[],[]⟩] }
def ofT (n:List UInt8) (w:Wat):Bool:=decide (w.2.2.1=n)
def Z27 (n p:List UInt8) (t:Tel):Tel×Bool :=
 if ¬(rawK t.kept n p).2=0 then (t,false)
 else if ¬p=[] then ({ t with kept:=(rawK t.kept n p).1 },true)
 else ({ (t.wat.filter (ofT n)).foldl Z9h { t with kept:=(rawK t.kept n p).1 } with wat:=t.wat.filter fun w=>!ofT n w },true)
def Zkv (c:List UInt8) (t:Tel):Tel:={ t with wants:=t.wants.filter fun w=>decide (¬w.1=c) }
def Za8 (c:List UInt8) (t:Tel):Tel :=
 if hasS t.sess c=true then
  if (goR (t.sess.getD (idxS t.sess c) s0)).clean=true then Zkv c { t with sess:=t.sess.take (idxS t.sess c)++t.sess.drop (idxS t.sess c+1) }
  else { t with sess:=t.sess.set (idxS t.sess c) (goR (t.sess.getD (idxS t.sess c) s0)) }
 else t
def insS (l:List Ses) (c:List UInt8):List Ses:=if hasS l c=true then l else l.take (idxS l c)++[⟨[],false,true,[],[],0⟩]++l.drop (idxS l c)
def Z9i (l:List Ses) (c:List UInt8) (clean:Bool):Bool:=!((insS l c).getD (idxS l c) s0).clean && !clean
def Zc1 (l:List Ses) (c:List UInt8) (clean:Bool):Ses:={ (if Z9i l c clean=true then (insS l c).getD (idxS l c) s0 else ⟨c,false,false,[],[],1⟩) with clean:=clean }
def Z3i (c:List UInt8) (p:Pkt) (t:Tel):Tel :=
 if ¬p.client=c then t
 else if ¬hasS t.sess c=true/\t.sess.length=6 then { t with out:=t.out++[toC c { pD_Q 2 with code:=3 }] }
 else { t with
  wants:=if Z9i t.sess c p.clean=true then t.wants else t.wants.filter fun w=>decide (¬w.1=c)
  sess:=(insS t.sess c).set (idxS t.sess c) (Zew (Zc1 t.sess c p.clean)).1
  out:=t.out++[toC c { pD_Q 2 with session:=Z9i t.sess c p.clean }]++(Zew (Zc1 t.sess c p.clean)).2.map fun k=>toC c (pkOf k) }
def Z3j (c:List UInt8) (p:Pkt) (t:Tel):Tel :=
 let t1:Tel:=if p.qos=1 then { t with out:=t.out++[toC c { pD_Q 4 with id:=p.id }] } else t
 Z5q p.topic p.payload p.qos (if p.retain=true then (Z27 p.topic p.payload t1).1 else t1)
def Z4a (c:List UInt8) (x:List Wt×List Int) (a:Ak):List Wt×List Int:=if (rawW x.1 (c,a.1,a.2)).2=0 then ((rawW x.1 (c,a.1,a.2)).1,x.2++[a.2]) else (x.1,x.2++[128])
def Zh9 (c:List UInt8) (ws:List Wt) (l:List Ak):List Wt×List Int:=l.foldl (Z4a c) (ws,[])
def Zmv (c:List UInt8) (kept:List Kp) (a:Ak) (q:Int):List Snt:=if q=128 then [] else (kept.filter (forF a.1)).map fun k=>toC c { pD_Q 3 with retain:=true,topic:=k.1,payload:=k.2.1 }
def Z4r (c:List UInt8) (kept:List Kp):List Ak->List Int->List Snt
 | a::l,q::m=>Zmv c kept a q++Z4r c kept l m
 | _,_=>[]
def Z2z (c:List UInt8) (p:Pkt) (t:Tel):Tel :=
 { t with wants:=(Zh9 c t.wants p.asks).1,out:=t.out++[toC c { pD_Q 9 with id:=p.id,codes:=(Zh9 c t.wants p.asks).2 }]++Z4r c t.kept p.asks (Zh9 c t.wants p.asks).2 }
def Z1w (c:List UInt8) (p:Pkt) (t:Tel):Tel :=
 { t with wants:=t.wants.filter fun w=>!(decide (w.1=c) && p.asks.any fun a=>decide (a.1=w.2.1)),out:=t.out++[toC c { pD_Q 11 with id:=p.id }] }
def Zmw (c:List UInt8) (p:Pkt) (t:Tel):Tel :=
 { t with sess:=t.sess.set (idxS t.sess c) (Z4e (t.sess.getD (idxS t.sess c) s0) p.id).1,out:=t.out++(Z4e (t.sess.getD (idxS t.sess c) s0) p.id).2.map fun k=>toC c (pkOf k) }
def Z1l (c:List UInt8) (p:Pkt) (t:Tel):Tel :=
 if ¬p.kind=1/\(¬hasS t.sess c=true\/¬(t.sess.getD (idxS t.sess c) s0).on=true) then t
 else if p.kind=1 then Z3i c p t
 else if p.kind=3 then Z3j c p t
 else if p.kind=4 then Zmw c p t
 else if p.kind=8 then Z2z c p t
 else if p.kind=10 then Z1w c p t
 else if p.kind=12 then { t with out:=t.out++[toC c (pD_Q 13)] }
 else if p.kind=14 then Za8 c t
 else t
def getB (n:Int) (m a:Msg) (name:List UInt8) (t:Tel):Tel×Msg :=
 if ¬hasK t.kept name=true then (t,{ a with code:=132 })
 else
  let a1:Msg:={ a with code:=69,pay:=(t.kept.getD (idx t.kept name) kD).2.1 }
  if (Z79 6 m.opts).2=0/\(Z79 6 m.opts).1=0 then
   if (Z5f t.wat (n,m.tok,name,1)).2=0 then ({ t with wat:=(Z5f t.wat (n,m.tok,name,1)).1 },putM a1 1) else (t,a1)
  else if (Z79 6 m.opts).2=0/\(Z79 6 m.opts).1=1 then ({ t with wat:=filt n m.tok t.wat },a1)
  else (t,a1)
def Zf7 (m:Msg) (next:Int):Msg:=if m.kind=1 then ⟨1,133,next,m.tok,[],[]⟩ else ⟨2,133,m.id,m.tok,[],[]⟩
def doB (n:Int) (m a:Msg) (t:Tel):Tel×Msg :=
 if ¬(Z24 m.opts).2=0 then (t,{ a with code:=128 })
 else if m.code=1 then getB n m a (Z24 m.opts).1 t
 else if m.code=3 then
  if ¬m.pay=[]/\(Z27 (Z24 m.opts).1 m.pay t).2=true then (Z5q (Z24 m.opts).1 m.pay 1 (Z27 (Z24 m.opts).1 m.pay t).1,{ a with code:=68 }) else (t,{ a with code:=128 })
 else if m.code=4 then ((Z27 (Z24 m.opts).1 [] t).1,{ a with code:=66 })
 else (t,a)
def Zap (n:Int) (m:Msg) (t:Tel):Tel :=
 let a:=Zf7 m t.next
 let x:=doB n m a { t with next:=if m.kind=1 then nx_Z t.next else t.next,out:=t.out++[toP n a] }
 { x.1 with out:=x.1.out.set t.out.length (toP n x.2) }
def Z56 (n:Int) (m:Msg) (t:Tel):Tel :=
 if m.code=0/\m.kind=0 then { t with out:=t.out++[toP n ⟨3,0,m.id,[],[],[]⟩] }
 else if ¬m.code=0/\m.kind<=1 then Zap n m t
 else t
def Zd2:Option (List UInt8)->List Ses->Int
 | _,[]=>0
 | u,s::l=>if ¬chkS s=0 then chkS s else if (match u with|none=>true|some c=>Zd c s.cl)=true then Zd2 (some s.cl) l else 4
def Z9j (l:List Ses):Int:=if 6<(l.length:Int) then 2 else Zd2 none l
def Z4b (t:Tel):Bool:=t.wants.any (fun w=>!hasS t.sess w.1) || t.wat.any (fun w=>!hasK t.kept w.2.2.1)
def chkB (t:Tel):Int :=
 if ¬chkK t.kept=0 then chkK t.kept
 else if ¬Ze t.wants=0 then Ze t.wants
 else if ¬Z9j t.sess=0 then Z9j t.sess
 else if ¬Z1n t.wat=0 then Z1n t.wat
 else if Z4b t=true then 4
 else if t.next<0\/65535<t.next then 3 else 0
end Go.Proofs.YtkhakgbnfapifaaGreatDoor
namespace Go.Proofs.YtkhakgbnfapifaaGreatDoor
open Go Go.Sx
def rdsZ (l:List (Value×List Kd×List (List Value))):Asrt where
 holds w:=∀t∈l,reads w t.1 t.2.1 t.2.2
 fp k:=∃t∈l,t.2.2.flatten≠[]/\Z1 t.1 k
 stable:=fun w w' h hh t ht=>(hh t ht).stable fun k hk=>h k ⟨t,ht,hk⟩
 bound:=fun w hh k ⟨t,ht,hk⟩=>Ent.bound (ρ:=[.v t.1,.r t.2.2]) (e:=.rd 0 t.2.1 (.var 1)) (hh t ht) hk
abbrev SesX:=Ses×Value×Value
abbrev sxD:SesX:=(s0,.slice none 0 0,.slice none 0 0)
def Zh (t:SesX):List Value:=[.string ⟨t.1.cl.toArray⟩,.bool t.1.on,.bool t.1.clean,sc1 t.2.1,sc1 t.2.2,.int .i64 t.1.next]
abbrev kSx:List Kd:=[.str,.bool,.bool,.oth,.oth,.int .i64]
def sesT (t:SesX):List (Value×List Kd×List (List Value)):=[(t.2.1,kF,t.1.fl.map encF),(t.2.2,kF,t.1.qu.map encF)]
abbrev SntX:=Snt×Value×Value×Value
def Z30 (t:SntX):List Value:=[.string ⟨t.1.client.toArray⟩,
 .int .i64 t.1.pk.kind,.bool t.1.pk.dup,.bool t.1.pk.retain,.bool t.1.pk.clean,.bool t.1.pk.session,.int .i64 t.1.pk.qos,.int .i64 t.1.pk.id,.int .i64 t.1.pk.keep,.int .i64 t.1.pk.code,.string ⟨t.1.pk.client.toArray⟩,.string ⟨t.1.pk.topic.toArray⟩,.string ⟨t.1.pk.payload.toArray⟩,sc1 t.2.1,sc1 t.2.2.1,
 .int .i64 t.1.peer,.int .i64 t.1.msg.kind,.int .i64 t.1.msg.code,.int .i64 t.1.msg.id,.string ⟨t.1.msg.tok.toArray⟩,sc1 t.2.2.2,.string ⟨t.1.msg.pay.toArray⟩]
abbrev kSn:List Kd:=[.str,.int .i64,.bool,.bool,.bool,.bool,.int .i64,.int .i64,.int .i64,.int .i64,.str,.str,.str,.oth,.oth,.int .i64,.int .i64,.int .i64,.int .i64,.str,.oth,.str]
def sntT (t:SntX):List (Value×List Kd×List (List Value)):=[(t.2.1,[.str,.int .i64],t.1.pk.asks.map encA),(t.2.2.1,[.int .i64],t.1.pk.codes.map Z1b),(t.2.2.2,[.int .i64,.str],t.1.msg.opts.map encO)]
def nest (l:List SesX) (o:List SntX):List (Value×List Kd×List (List Value)):=l.flatMap sesT++o.flatMap sntT
def Z6 (l:List SesX) (o:List SntX):Asrt:=rdsZ (nest l o)
theorem Z18 {l:List SesX} {o:List SntX} {w:World} (h:(Z6 l o).holds w) {t:SesX} (ht:t∈l):Z12 w t.2.1 t.1.fl/\Z12 w t.2.2 t.1.qu :=
 ⟨h (t.2.1,kF,t.1.fl.map encF) (List.mem_append_left _ (List.mem_flatMap.2 ⟨t,ht,by simp[sesT]⟩)),h (t.2.2,kF,t.1.qu.map encF) (List.mem_append_left _ (List.mem_flatMap.2 ⟨t,ht,by simp[sesT]⟩))⟩
theorem Zkw {l:List SesX} {o:List SntX} {w:World} (h:(Z6 l o).holds w) {t:SntX} (ht:t∈o):Z6t w t.2.1 t.1.pk.asks/\Z60 w t.2.2.1 t.1.pk.codes/\Z49 w t.2.2.2 t.1.msg.opts :=
 ⟨h (t.2.1,[.str,.int .i64],t.1.pk.asks.map encA) (List.mem_append_right _ (List.mem_flatMap.2 ⟨t,ht,by simp[sntT]⟩)),h (t.2.2.1,[.int .i64],t.1.pk.codes.map Z1b) (List.mem_append_right _ (List.mem_flatMap.2 ⟨t,ht,by simp[sntT]⟩)),h (t.2.2.2,[.int .i64,.str],t.1.msg.opts.map encO) (List.mem_append_right _ (List.mem_flatMap.2 ⟨t,ht,by simp[sntT]⟩))⟩
theorem Z1d {l l':List SesX} {o o':List SntX} {w:World} (h1:∀t∈l',t∈l\/(Z12 w t.2.1 t.1.fl/\Z12 w t.2.2 t.1.qu)) (h2:∀t∈o',t∈o\/(Z6t w t.2.1 t.1.pk.asks/\Z60 w t.2.2.1 t.1.pk.codes/\Z49 w t.2.2.2 t.1.msg.opts)) (h:(Z6 l o).holds w):(Z6 l' o').holds w:=by
 intro x hx;rcases qy13.1 hx with hx|hx
 ·obtain⟨t,ht,hx⟩:=List.mem_flatMap.1 hx;have hr:Z12 w t.2.1 t.1.fl/\Z12 w t.2.2 t.1.qu:=by
   rcases h1 t ht with h3|h3
   ·exact Z18 h h3
   ·exact h3
  simp only[sesT,List.mem_cons,List.not_mem_nil,or_false]at hx;rcases hx with rfl|rfl
  ·exact hr.1
  ·exact hr.2
 ·obtain⟨t,ht,hx⟩:=List.mem_flatMap.1 hx;have hr:Z6t w t.2.1 t.1.pk.asks/\Z60 w t.2.2.1 t.1.pk.codes/\Z49 w t.2.2.2 t.1.msg.opts:=by
   rcases h2 t ht with h3|h3
   ·exact Zkw h h3
   ·exact h3
  simp only[sntT,List.mem_cons,List.not_mem_nil,or_false]at hx;rcases hx with rfl|rfl|rfl
  ·exact hr.1
  ·exact hr.2.1
  ·exact hr.2.2
def sesF (t:SesX) (k:Nat):Prop:=((t.1.fl.map encF).flatten≠[]/\Z1 t.2.1 k)\/((t.1.qu.map encF).flatten≠[]/\Z1 t.2.2 k)
def sntF (t:SntX) (k:Nat):Prop:=((t.1.pk.asks.map encA).flatten≠[]/\Z1 t.2.1 k)\/((t.1.pk.codes.map Z1b).flatten≠[]/\Z1 t.2.2.1 k)\/((t.1.msg.opts.map encO).flatten≠[]/\Z1 t.2.2.2 k)
theorem Zf {l:List SesX} {o:List SntX} {k:Nat}:(Z6 l o).fp k↔(∃t∈l,sesF t k)\/(∃t∈o,sntF t k):=by
 constructor
 ·rintro⟨x,hx,hk⟩;rcases qy13.1 hx with hx|hx
  ·obtain⟨t,ht,hx⟩:=List.mem_flatMap.1 hx;simp only[sesT,List.mem_cons,List.not_mem_nil,or_false]at hx;rcases hx with rfl|rfl
   ·exact .inl ⟨t,ht,.inl hk⟩
   ·exact .inl ⟨t,ht,.inr hk⟩
  ·obtain⟨t,ht,hx⟩:=List.mem_flatMap.1 hx;simp only[sntT,List.mem_cons,List.not_mem_nil,or_false]at hx;rcases hx with rfl|rfl|rfl
   ·exact .inr ⟨t,ht,.inl hk⟩
   ·exact .inr ⟨t,ht,.inr (.inl hk)⟩
   ·exact .inr ⟨t,ht,.inr (.inr hk)⟩
 ·rintro(⟨t,ht,h|h⟩|⟨t,ht,h|h|h⟩)
  ·exact⟨_,List.mem_append_left _ (List.mem_flatMap.2 ⟨t,ht,qy8 ..⟩),h⟩
  ·exact⟨_,List.mem_append_left _ (List.mem_flatMap.2 ⟨t,ht,qy10 _ (qy8 ..)⟩),h⟩
  ·exact⟨_,List.mem_append_right _ (List.mem_flatMap.2 ⟨t,ht,qy8 ..⟩),h⟩
  ·exact⟨_,List.mem_append_right _ (List.mem_flatMap.2 ⟨t,ht,qy10 _ (qy8 ..)⟩),h⟩
  ·exact⟨_,List.mem_append_right _ (List.mem_flatMap.2 ⟨t,ht,qy10 _ (qy10 _ (qy8 ..))⟩),h⟩
theorem gSx0 (l:List SesX) (i:Nat):Value.gS (((l.map Zh).getD i []).getD 0 undef)=(l.getD i sxD).1.cl:=by simp only[qy1,List.getElem?_map];cases l[i]?<;>simp[Zh,Value.gS,undef,s0]
theorem Za9 {l:List SesX} {i:Nat} (h:i<l.length):(l.map Zh).getD i []=Zh (l.getD i sxD):=by rw[qy1,qy1,List.getElem?_map,qy7 h];rfl
theorem Zf8 {l:List SesX} {i:Nat} (h:i<l.length):l.getD i sxD∈l:=by rw[qy1,qy7 h];exact List.getElem_mem h
theorem Ziv (l:List SesX) (i:Nat):(l.map (·.1)).getD i s0=(l.getD i sxD).1:=by rw[qy1,qy1,List.getElem?_map];cases l[i]?<;>rfl
end Go.Proofs.YtkhakgbnfapifaaGreatDoor
