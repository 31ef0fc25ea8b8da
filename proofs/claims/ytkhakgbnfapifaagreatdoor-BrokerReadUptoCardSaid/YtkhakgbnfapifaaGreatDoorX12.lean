/-
  Texts of mine, one behind the other. By an AI agent.
-/
import Derived.Test.YtkhakgbnfapifaaGreatDoorX11
import Derived.Test.YtkhakgbnfapifaaGreatDoorX10
import Derived.Test.YtkhakgbnfapifaaGreatDoorX06
import Derived.Shelf.Strings.Search3
import Derived.Shelf.Strings.Trim
import Derived.Shelf.Strings.OnBuilder
import Derived.Test.YtkhakgbnfapifaaGreatDoorProg
import Derived.Shelf.RegionOpenPlain
import Derived.Lib.Strings
import Derived.Lib.Slices
import Derived.Lib.Walk
import Derived.Lib.Builder
import Derived.Lib.AppendStr
import Derived.Lib.UnsafeStr
import Derived.WalkKit
import Derived.Test.YtkhakgbnfapifaaGreatDoorX05
import Derived.Test.YtkhakgbnfapifaaGreatDoorX09
set_option linter.unusedSimpArgs false
set_option linter.unusedVariables false
set_option maxHeartbeats 20000000
namespace Go.Proofs.YtkhakgbnfapifaaGreatDoor
open Go.Sx
def noN (n:Int) (os:List Opt):List Opt:=os.filter fun o=>decide (o.1≠n)
def upTo (n:Int) (os:List Opt):List Opt:=os.takeWhile fun o=>decide (o.1<=n)
def past (n:Int) (os:List Opt):List Opt:=os.dropWhile fun o=>decide (o.1<=n)
def Z4f (os:List Opt) (n:Int) (vs:List (List UInt8)):List Opt:=upTo n (noN n os)++vs.map (fun v=>(n,v))++past n (noN n os)
theorem Zdw (n:Int) (os:List Opt):upTo n os++past n os=os:=List.takeWhile_append_dropWhile
theorem Zsh {n:Int} {os:List Opt}:∀o∈noN n os,o.1≠n:=by simp[noN]
theorem Z12u {n:Int} {os:List Opt} (h:∀o∈os,o.1≠n):noN n os=os:=by rw[noN,List.filter_eq_self];simpa using h
def Zg (n:Int) (os:List Opt):List (List UInt8):=(os.filter fun o=>decide (o.1=n)).map (·.2)
theorem Z74 {n:Int} {os:List Opt} (h:∀o∈os,o.1≠n):Zg n os=[]:=by rw[Zg,List.map_eq_nil_iff,List.filter_eq_nil_iff];simpa using h
theorem Zwr (n:Int) (vs:List (List UInt8)):Zg n (vs.map fun v=>(n,v))=vs:=by simp[Zg,List.filter_map,List.map_map,Function.comp_def]
theorem Zci (n:Int) (a b:List Opt):Zg n (a++b)=Zg n a++Zg n b:=by simp[Zg]
theorem Zsi (os:List Opt) (n:Int) (vs:List (List UInt8)):Zg n (Z4f os n vs)=vs:=by have h1:∀o∈upTo n (noN n os),o.1≠n:=fun o ho=>Zsh o (by rw[<- Zdw n (noN n os)];exact List.mem_append_left _ ho);have h2:∀o∈past n (noN n os),o.1≠n:=fun o ho=>Zsh o (by rw[<- Zdw n (noN n os)];exact List.mem_append_right _ ho);rw[Z4f,Zci,Zci,Z74 h1,Z74 h2,Zwr,List.append_nil,List.nil_append]
theorem Zmd {n:Int}:∀{l:List Opt} {k:Nat},k<=l.length->(∀j,j<k->(l.getD j oD).1<=n)->(k<l.length->n<(l.getD k oD).1)->l.take k=upTo n l/\l.drop k=past n l
 | [],k,hk,_,_=>by simp[upTo,past]
 | o::l,0,_,_,h2=>by
  have h:=h2 (by simp);simp only[List.getD_cons_zero]at h;have:¬o.1<=n:=by omega
  simp[upTo,past,List.takeWhile_cons,List.dropWhile_cons,this]
 | o::l,k+1,hk,h1,h2=>by have h:=h1 0 (by omega);simp only[List.getD_cons_zero]at h;obtain⟨e1,e2⟩:=Zmd (n:=n) (l:=l) (k:=k) (by simpa using hk) (fun j hj=>by have:=h1 (j+1) (by omega);simpa using this) (fun hj=>by have:=h2 (by simpa using hj);simpa using this);simp only[upTo,past]at e1 e2 ⊢;simp[List.takeWhile_cons,List.dropWhile_cons,h,e1,e2]
def Zeo (v:List UInt8):Int×Int:=if 3<(v.length:Int) then (0,1) else ((beN v 0:Nat),0)
def Z4g (n:Int) (os:List Opt):Int×Int:=match Zg n os with | []=>(0,5)|v::_=>Zeo v
def Z1l (n:Int):List UInt8:=(numB 3 n).dropWhile fun c=>c == 0
def Z3t (m:Msg) (n:Int):Int×Int:=if chk m=0 then Z4g n m.opts else (0,chk m)
def Z1p (os:List Opt):List UInt8×Int :=
 if Zg 11 os=[] then ([],5)
 else if chkT (Z3d (Zg 11 os)) false=0 then
  (if (Zg 11 os).any (fun v=>v.any fun c=>c == 47)=true then ([],1) else (Z3d (Zg 11 os),0))
 else ([],chkT (Z3d (Zg 11 os)) false)
def Zkm (m:Msg):List UInt8×Int:=if chk m=0 then Z1p m.opts else ([],chk m)
def outR (m:Msg):Msg×Int:=if chk m=0 then (m,0) else (mNil,chk m)
def Zdx (m:Msg) (n:Int) (vs:List (List UInt8)):Msg:={ m with opts:=Z4f m.opts n vs }
def Z1d (m:Msg) (t:List UInt8):Msg×Int:=if chk m=0 then (if chkT t false=0 then outR (Zdx m 11 (lev t)) else (mNil,chkT t false)) else (mNil,chk m)
def Zz (m:Msg) (n x:Int):Msg×Int:=if chk m=0 then (if 0<=x/\x<=16777215 then outR (Zdx m n [Z1l x]) else (mNil,3)) else (mNil,chk m)
abbrev Bk:=Int×Bool×Int
def blkE (b:Bk):Int:=if (0<=b.2.2/\b.2.2<=6)/\0<=b.1/\b.1<=1048575 then 0 else 3
def blkN (b:Bk):Int:=16*b.1+b.2.2+(if b.2.1=true then 8 else 0)
def nBlk (n:Int):Bk:=(n / 16,decide (n / 8 % 2=1),n % 8)
def Z84 (m:Msg):Bk×Int:=if (Z3t m 23).2=0 then (if blkE (nBlk (Z3t m 23).1)=0 then (nBlk (Z3t m 23).1,0) else ((0,false,0),blkE (nBlk (Z3t m 23).1))) else ((0,false,0),(Z3t m 23).2)
def Zs (m:Msg) (b:Bk):Msg×Int:=if chk m=0 then (if blkE b=0 then Zz m 23 (blkN b) else (mNil,blkE b)) else (mNil,chk m)
theorem Z12v {s:List UInt8}:∀x∈lev s,(x.any fun c=>c == 47)=false:=by
 induction s with
 | nil=>intro x hx;simp[lev]at hx;subst hx;rfl
 | cons c l ih =>
  intro x hx;by_cases hc:c=47
  ·subst hc;rw[Z4e]at hx;rcases List.mem_cons.1 hx with rfl|hx
   ·rfl
   ·exact ih x hx
  ·rw[Z34 _ hc]at hx;obtain⟨y,ys,e⟩:=Zdg l;rw[e]at hx ih;simp only[glue]at hx;rcases List.mem_cons.1 hx with rfl|hx
   ·have:=ih y (qy8 ..);simp[hc,this]
   ·exact ih x (qy10 _ hx)
theorem Z75 {os:List Opt} {t:List UInt8} (h:chkT t false=0):Z1p (Z4f os 11 (lev t))=(t,0):=by obtain⟨y,ys,e⟩:=Zdg t;rw[Z1p,Zsi,if_neg (by rw[e];simp),Zsg,if_pos h,if_neg];intro h1;obtain⟨x,hx,hx2⟩:=List.any_eq_true.1 h1;rw[Z12v x hx]at hx2;simp at hx2
theorem Zsj {m:Msg} (h:(outR m).2=0):chk m=0/\outR m=(m,0):=by
 unfold outR at h ⊢;split
 ·exact⟨‹_›,rfl⟩
 ·rename_i h0;rw[if_neg h0]at h;exact absurd h h0
end Go.Proofs.YtkhakgbnfapifaaGreatDoor
namespace Go.Proofs.YtkhakgbnfapifaaGreatDoor
open Go Go.Sx Go.Shelf Go.RowKit Go.Lib
set_option maxRecDepth 100000 in
theorem Zsk (w:World) (b:Option Addr) (n c i:Nat) (vb:Option Addr) (vc:Nat) (hi:i<=n) (hc:n<=c) (hb:b=none->c=0) : Calls Tryz.prog 192 #[.slice b n c,.int .i64 i,.slice vb 0 vc] w fun e w'=>e=.returned (.slice b n c)/\w'=w:=by
  go_enter Tryz.func192,Tryz.ntmps192
  go_wp2
  all_goals (go_ret;exact⟨rfl,rfl⟩)
set_option maxRecDepth 100000 in
theorem Zws (w:World) (b:Option Addr) (n c:Nat) (vb:Option Addr) (m vc:Nat) (hm:0<m) (hc:n<=c) (hb:b=none->c=0) (v':Value) (w':World) (hrun:∀ty,(Builtin.append_ #[48,48] ty #[.slice b n c,.slice vb m vc]).run Tryz.prog w=.ok v' w') : Calls Tryz.prog 192 #[.slice b n c,.int .i64 n,.slice vb m vc] w fun e w1=>e=.returned v'/\w1=w':=by
  have hz1:¬((m:Int)=0):=by omega
  go_enter Tryz.func192,Tryz.ntmps192
  go_wp2_with (at_builtin;refine Lib.wpList_append_run _ rfl _ _ _ _ rfl _ _ rfl rfl _ _ (hrun _) ?_)
  all_goals (go_ret;exact⟨rfl,rfl⟩)
set_option maxRecDepth 100000 in
theorem Zop (w:World) (g n c i vb m vc:Nat) (cs vs:List Value) (cur vcur cur2:Array Value) (hi:i<n) (hm:0<m) (hroom:n+m<=c) (hc63:c<=9223372036854775807) (hvb:vb≠g) (hg:w.heap[g]?=some (.cells cur 127 (0,0))) (hcs:cur.size=c*2) (hv:w.heap[vb]?=some (.cells vcur 127 (0,0))) (hvl:m*2<=vcur.size) (e1:cs=(cur.toList.drop (i*2)).take ((n - i)*2)) (e2:vs=vcur.toList.take (m*2)) (h1c:∀v∈cs,v.oneCell'=true) (h1v:∀v∈vs,v.oneCell'=true) (e3:cur2.toList=cur.toList.take (i*2)++vs++cs++cur.toList.drop ((n+m)*2)) : Calls Tryz.prog 192 #[.slice (some ⟨g,0,none⟩) n c,.int .i64 i,.slice (some ⟨vb,0,none⟩) m vc] w fun e w'=>e=.returned (.slice (some ⟨g,0,none⟩) (n+m) c)/\w'=w.drew.setRow g cur2:=by
  have hz1:¬((m:Int)=0):=by omega
  have hz2:¬((i:Int)=(n:Int)):=by omega
  have hw1:IntKind.i64.wrap ((i:Int)+(m:Int))=(i:Int)+(m:Int):=by rw[IntKind.wrap_i64];omega
  have hw2:IntKind.i64.wrap ((n:Int)+(m:Int))=(n:Int)+(m:Int):=by rw[IntKind.wrap_i64];omega
  have hb1:(0:Int)<=(i:Int)+(m:Int):=by omega
  have hin:i<=n:=by omega
  have htn:((i:Int)+(m:Int)).toNat=i+m:=by omega
  have htn2:((n:Int)+(m:Int)).toNat=n+m:=by omega
  have hb2:¬(c=i+m):=by omega
  have hb3:(i:Int)<=(n:Int)+(m:Int):=by omega
  have hb4:¬(c=i):=by omega
  have hsz:(Tryz.prog.info? 127).map (·.size)=some 2:=by kernel_rfl
  have hso:∀w,(Go.sizeOf 127).run Tryz.prog w=.ok 2 w:=fun w=>by
    cases hq:Tryz.prog.info? 127 with
    | none=>rw[hq]at hsz;simp at hsz
    | some i=>rw[hq]at hsz;simp at hsz;simp[sizeOf,typeInfo,hq,hsz]
  have hu:=Tryz.underlying48;have hov:∀o lb cb,(callFunc 245 #[.slice (some ⟨vb,0,none⟩) m vc,.slice (some ⟨g,o,none⟩) lb cb]).run Tryz.prog w=.ok (.value (.bool false)) w:=fun o lb cb=>by
    rw[run_callFunc_extern Tryz.func245 (by kernel_rfl) (by kernel_rfl) (by kernel_rfl) (e:=Extern.SlicesOverlaps.overlaps #[48,48] #[4]) (by kernel_rfl),
      Lib.run_overlaps_apart w 48 4 127 hu 2 hso ⟨vb,0,none⟩ ⟨g,o,none⟩ m vc lb cb hvb 127 127 vcur.size cur.size (by simp[World.shape?,hv]) (by simp[World.shape?,hg]) (by omega) (by simp[World.frozen?,hv]) (by simp[World.frozen?,hv])]
    rfl
  have hcl:cs.length=(n - i)*2:=by rw[e1];simp;omega
  have hvl2:vs.length=m*2:=by rw[e2];simp;omega
  have hgd:w.drew.heap[g]?=some (.cells cur 127 (0,0)):=hg;have hcp1:∀ty dc sc,(Builtin.copy_ #[48,48] ty #[.slice (some ⟨g,(i+m)*2,none⟩) (n+m - (i+m)) dc,.slice (some ⟨g,i*2,none⟩) (n+m - i) sc]).run Tryz.prog w.drew=.ok (goInt ((n - i:Nat):Int)) (w.drew.setRow g (cur.toList.take ((i+m)*2)++cs++cur.toList.drop ((i+m)*2+cs.length)).toArray):=fun ty dc sc =>
    Zc (P:=Tryz.prog) w.drew 48 48 ty 127 2 g ((i+m)*2) (n+m - (i+m)) dc ⟨g,i*2,none⟩ (n+m - i) sc cur 127 cs (n - i) (by omega) hu hsz hgd hcl (fun j v hj=>by
      rw[e1,List.getElem?_take]at hj;split at hj
      . rw[Addr.add_lit];simp only[World.cell?,hgd];simpa using hj
      . cases hj) (by rw[hcl];omega) h1c
  obtain⟨cur1,hcur1⟩:∃cur1:Array Value,cur1=(cur.toList.take ((i+m)*2)++cs++cur.toList.drop ((i+m)*2+cs.length)).toArray:=⟨_,rfl⟩
  rw[<- hcur1]at hcp1;have hs1:cur1.size=cur.size:=by rw[hcur1];simp only[List.size_toArray,qy11,List.length_take,List.length_drop,Array.length_toList,hcl];omega
  have hcp2:∀(W:World),W.heap=(w.drew.setRow g cur1).heap->∀ty dc,(Builtin.copy_ #[48,48] ty #[.slice (some ⟨g,i*2,none⟩) (n+m - i) dc,.slice (some ⟨vb,0,none⟩) m vc]).run Tryz.prog W=.ok (goInt m) (W.setRow g cur2):=fun W hW ty dc=>by
    have hgW:W.heap[g]?=some (.cells cur1 127 (0,0)):=by rw[hW];exact setRow_heap _ _ _ _ _ _ hgd
    have hvW:W.heap[vb]?=some (.cells vcur 127 (0,0)):=by rw[hW,setRow_other _ _ _ _ hvb];exact hv
    have:=Zc (P:=Tryz.prog) W 48 48 ty 127 2 g (i*2) (n+m - i) dc ⟨vb,0,none⟩ m vc cur1 127 vs m (by omega) hu hsz hgW hvl2 (fun j v hj=>by
      rw[e2,List.getElem?_take]at hj;split at hj
      . rw[Addr.add_lit];simp only[World.cell?,hvW,Nat.zero_add];simpa using hj
      . cases hj) (by rw[hvl2,hs1];omega) h1v
    rw[this];congr 2
    apply Array.toList_inj.1;rw[e3,hcur1];simp only[List.toList_toArray];rw[Zgv cur.toList cs vs (i*2) ((i+m)*2) ((n+m)*2) (by rw[hvl2];omega) (by rw[hcl];omega) (by simp;omega)]
  have mixed:Tryz.prog.follows Departure.mixedOrders=true:=by kernel_rfl
  go_enter Tryz.func192,Tryz.ntmps192
  go_wp2_with (simp only[hov])
  go_region_law_o (refine step_copy_runI rfl _ _ 48 48 rfl _ _ (by simp[Act.eval,Act.put]) (by simp[Act.eval,Act.put]) (hcp1 _ _ _) ?_)
  go_wp2_with (at_builtin;refine wpList_copy_runI _ rfl _ _ 48 48 rfl _ _ rfl rfl (hcp2 _ rfl _ _) ?_)
  go_ret
  first|exact⟨rfl,rfl⟩|exact⟨rfl,by rw[setRow_setRow]⟩
set_option maxRecDepth 100000 in
theorem Zsl (w:World) (g n c i vb m vc:Nat) (hd cs vs:List Value) (cur vcur:Array Value) (hi:i<n) (hm:0<m) (hnc:n<=c) (hroom:c<n+m) (hbig:(n+m)*24<=140737488355328) (hg:w.heap[g]?=some (.cells cur 127 (0,0))) (hcs:cur.size=c*2) (hv:w.heap[vb]?=some (.cells vcur 127 (0,0))) (hvl:m*2<=vcur.size) (e0:hd=cur.toList.take (i*2)) (e1:cs=(cur.toList.drop (i*2)).take ((n - i)*2)) (e2:vs=vcur.toList.take (m*2)) (h1c:∀v∈cs,v.oneCell'=true) (h1v:∀v∈vs,v.oneCell'=true) : Calls Tryz.prog 192 #[.slice (some ⟨g,0,none⟩) n c,.int .i64 i,.slice (some ⟨vb,0,none⟩) m vc] w fun e w'=>∃(G:Nat) (cur3:Array Value),e=.returned (.slice (some ⟨w.heap.size,0,none⟩) (n+m) G)/\n+m<=G/\G<=maxLen/\cur3.size=G*2/\cur3.toList.take ((n+m)*2)=hd++vs++cs /\ w'.heap[w.heap.size]?=some (.cells cur3 127 (0,0))/\w.grownBy w' none:=by
  have hz1:¬((m:Int)=0):=by omega
  have hz2:¬((i:Int)=(n:Int)):=by omega
  have hz3:(c:Int)<(n:Int)+(m:Int):=by omega
  have hw1:IntKind.i64.wrap ((i:Int)+(m:Int))=(i:Int)+(m:Int):=by rw[IntKind.wrap_i64];omega
  have hb1:(0:Int)<=(i:Int)+(m:Int):=by omega
  have hin:i<=n:=by omega
  have htn:((i:Int)+(m:Int)).toNat=i+m:=by omega
  have hb3:(i:Int)<=(n:Int):=by omega
  have hu:=Tryz.underlying48;have hsz:(Tryz.prog.info? 127).map (·.size)=some 2:=by kernel_rfl
  obtain⟨i0,hi0⟩:∃i0,Tryz.prog.info? 127=some i0:=by
    cases hq:Tryz.prog.info? 127 with
    | none=>rw[hq]at hsz;simp at hsz
    | some i=>exact⟨i,rfl⟩
  have hk:i0.size=2:=by rw[hi0]at hsz;simpa using hsz
  have hby:i0.bytes=24:=by
    have:(Tryz.prog.info? 127).map (·.bytes)=some 24:=by kernel_rfl
    rw[hi0]at this;simpa using this
  obtain⟨z,hz,hzs⟩:∃z,i0.zero=some z/\z.cells.size=2:=by
    have:(Tryz.prog.info? 127).bind (fun i=>i.zero.map (fun z=>z.cells.size))=some 2:=by kernel_rfl
    rw[hi0]at this;simp only[Option.bind_some,Option.map_eq_some_iff]at this;exact this
  have hbw:g<w.heap.size:=(Array.getElem?_eq_some_iff.1 hg).1;have hvw:vb<w.heap.size:=(Array.getElem?_eq_some_iff.1 hv).1;have hkk:(n:Int)+(m:Int) - (i:Int)=((n+m - i:Nat):Int):=by omega
  have hik:i+(n+m - i)=n+m:=by omega
  have hgd:w.drew.heap[g]?=some (.cells cur 127 (0,0)):=hg;have hhl:hd.length=i*2:=by rw[e0];simp;omega
  have hold:(Builtin.firstCells i0.size i (.slice (some ⟨g,0,none⟩) i c)).run Tryz.prog w.drew=.ok hd.toArray w.drew:=by
    rw[hk];exact run_firstCells_some w.drew 2 i ⟨g,0,none⟩ i c hd hhl (fun j v hj=>by
      rw[Addr.add_lit];rw[e0,List.getElem?_take]at hj;split at hj
      . simp only[World.cell?,hgd,Nat.zero_add];simpa using hj
      . cases hj)
  have hrz:∀ty,(Builtin.append_ #[48,3] ty #[.slice (some ⟨g,0,none⟩) i c,.int .i64 ((n:Int)+(m:Int) - (i:Int))]).run Tryz.prog w =
      .ok (.slice (some ⟨w.heap.size,0,none⟩) (n+m) (grownCap w (n+m) c 127)) (w.drew.alloc (.cells (hd.toArray++Builtin.zeroCells z.cells (n+m - i)++Builtin.zeroCells z.cells (grownCap w (n+m) c 127 - (n+m))) 127)):=fun ty=>by
    have h:=Lib.run_append_grow_zeros w 48 3 ty 127 i0 z .i64 .i64 hu Tryz.underlying3 hi0 hz (some ⟨g,0,none⟩) i c hd hold (n+m - i) (by omega) (by omega) (by omega) (by omega) (by rw[hby];omega) (by rw[hby,hik];exact growslice_fits hroom hbig);rw[hik]at h;rw[hkk];exact h
  obtain⟨G,hG⟩:∃G,G=grownCap w (n+m) c 127:=⟨_,rfl⟩
  obtain⟨ROW,hROW⟩:∃ROW:Array Value,ROW=hd.toArray++Builtin.zeroCells z.cells (n+m - i)++Builtin.zeroCells z.cells (G - (n+m)):=⟨_,rfl⟩
  rw[<- hG]at hrz;rw[<- hROW]at hrz;have hGn:n+m<=G:=by rw[hG];exact grownCap_ge w _ _ _
  have hG63:G<=maxLen:=by have:=grownCap_le_maxLen w (n+m) c 127 (by unfold maxLen;omega);rw[<- hG]at this;exact this
  have hG63':G<=9223372036854775807:=hG63;have hRl:ROW.size=G*2:=by rw[hROW];simp only[Array.size_append,List.size_toArray,Z1t,hzs,hhl];omega
  have hRt:ROW.toList.take (i*2)=hd:=by rw[hROW];simp only[Array.toList_append,List.toList_toArray,List.append_assoc];rw[List.take_append_of_le_length (by omega),List.take_of_length_le (by omega)]
  have hcl:cs.length=(n - i)*2:=by rw[e1];simp;omega
  have hvl2:vs.length=m*2:=by rw[e2];simp;omega
  obtain⟨W1,hW1⟩:∃W1,W1=w.drew.alloc (.cells ROW 127):=⟨_,rfl⟩
  rw[<- hW1]at hrz;have hN:W1.heap[w.heap.size]?=some (.cells ROW 127 (0,0)):=by rw[hW1];exact heap_alloc_new w.drew _
  have hO:∀k,k<w.heap.size->W1.heap[k]?=w.heap[k]?:=fun k hk=>by rw[hW1];exact heap_alloc_old w.drew _ hk
  obtain⟨cur2,hcur2⟩:∃cur2:Array Value,cur2=(ROW.toList.take (i*2)++vs++ROW.toList.drop (i*2+vs.length)).toArray:=⟨_,rfl⟩
  obtain⟨cur3,hcur3⟩:∃cur3:Array Value,cur3=(cur2.toList.take ((i+m)*2)++cs++cur2.toList.drop ((i+m)*2+cs.length)).toArray:=⟨_,rfl⟩
  have hs2:cur2.size=ROW.size:=by rw[hcur2];simp only[List.size_toArray,qy11,List.length_take,List.length_drop,Array.length_toList,hvl2];omega
  have hs3:cur3.size=ROW.size:=by rw[hcur3];simp only[List.size_toArray,qy11,List.length_take,List.length_drop,Array.length_toList,hcl,hs2];omega
  have ht3:cur3.toList.take ((n+m)*2)=hd++vs++cs:=by rw[hcur3,hcur2];simp only[List.toList_toArray];rw[hRt,Zgw hd vs cs _ ((i+m)*2) (by omega)];rw[List.take_append_of_le_length (by simp only[qy11];omega),List.take_of_length_le (by simp only[qy11];omega)]
  have hcpA:∀(W:World),W.heap=W1.heap->∀ty dc,(Builtin.copy_ #[48,48] ty #[.slice (some ⟨w.heap.size,i*2,none⟩) (n+m - i) dc,.slice (some ⟨vb,0,none⟩) m vc]).run Tryz.prog W=.ok (goInt m) (W.setRow w.heap.size cur2):=fun W hW ty dc=>by
    rw[hcur2];exact Zc (P:=Tryz.prog) W 48 48 ty 127 2 w.heap.size (i*2) (n+m - i) dc ⟨vb,0,none⟩ m vc ROW 127 vs m (by omega) hu hsz (by rw[hW];exact hN) hvl2 (fun j v hj=>by
      rw[e2,List.getElem?_take]at hj;split at hj
      . rw[Addr.add_lit];simp only[World.cell?,hW,hO vb hvw,hv,Nat.zero_add];simpa using hj
      . cases hj) (by rw[hvl2,hRl];omega) h1v
  have hcpB:∀(W:World),W.heap=(W1.setRow w.heap.size cur2).heap->∀ty dc sc,(Builtin.copy_ #[48,48] ty #[.slice (some ⟨w.heap.size,(i+m)*2,none⟩) (n+m - (i+m)) dc,.slice (some ⟨g,i*2,none⟩) (n - i) sc]).run Tryz.prog W=.ok (goInt ((n - i:Nat):Int)) (W.setRow w.heap.size cur3):=fun W hW ty dc sc=>by
    rw[hcur3];exact Zc (P:=Tryz.prog) W 48 48 ty 127 2 w.heap.size ((i+m)*2) (n+m - (i+m)) dc ⟨g,i*2,none⟩ (n - i) sc cur2 127 cs (n - i) (by omega) hu hsz (by rw[hW];exact setRow_heap _ _ _ _ _ _ hN) hcl (fun j v hj=>by
      rw[e1,List.getElem?_take]at hj;split at hj
      . rw[Addr.add_lit];simp only[World.cell?,hW,setRow_other _ _ _ _ (Nat.ne_of_lt hbw),hO g hbw,hg];simpa using hj
      . cases hj) (by rw[hcl,hs2,hRl];omega) h1c
  have hGi:¬(G=i):=by omega
  have hGim:¬(G=i+m):=by omega
  have hci:¬(c=i):=by omega
  have hfin:∀W:World,W.heap=(W1.setRow w.heap.size cur2).heap->W.os=w.os->W.tape=w.tape->W.output=w.output->∃(G':Nat) (cur4:Array Value),Ending.returned (.slice (some ⟨w.heap.size,0,none⟩) (n+m) G)=.returned (.slice (some ⟨w.heap.size,0,none⟩) (n+m) G')/\n+m<=G'/\G'<=maxLen/\cur4.size=G'*2/\cur4.toList.take ((n+m)*2)=hd++vs++cs /\
      (W.setRow w.heap.size cur3).heap[w.heap.size]?=some (.cells cur4 127 (0,0))/\w.grownBy (W.setRow w.heap.size cur3) none:=by
    intro W hW ho ht hou;refine⟨G,cur3,rfl,hGn,hG63,by rw[hs3,hRl],ht3,setRow_heap _ _ _ _ _ _ (by rw[hW];exact setRow_heap _ _ _ _ _ _ hN),⟨ho,ht,hou,?_,fun k hk _=>?_⟩⟩
    . rw[setRow_size,hW,setRow_size,hW1];exact Nat.le_of_lt (by show w.heap.size<(w.heap.push _).size;rw[Array.size_push];omega)
    . rw[setRow_other _ _ _ _ (by omega),hW,setRow_other _ _ _ _ (by omega)];exact hO k hk
  subst hW1;have mixed:Tryz.prog.follows Departure.mixedOrders=true:=by kernel_rfl
  have hE1:((w.alloc (.cells ROW 127)).drew).heap=(w.drew.alloc (.cells ROW 127)).heap:=rfl;have hF1:(((w.alloc (.cells ROW 127)).drew.setRow w.heap.size cur2).drew).heap=((w.drew.alloc (.cells ROW 127)).setRow w.heap.size cur2).heap:=rfl;clear hkk hik hold hROW hG hRl hcur2 hcur3 hs2 hs3 ht3 hRt;go_enter Tryz.func192,Tryz.ntmps192
  go_wp2_with (first
    | (at_builtin;refine Lib.wpList_append_run _ rfl _ _ _ _ rfl _ _ rfl rfl _ _ (hrz _) ?_)
    | (at_builtin;refine wpList_copy_runI _ rfl _ _ 48 48 rfl _ _ rfl rfl (hcpA _ hE1 _ _) ?_)
    | (at_builtin;refine wpList_copy_runI _ rfl _ _ 48 48 rfl _ _ rfl rfl (hcpB _ hF1 _ _ _) ?_))
  go_region_law_o (refine step_copy_runI rfl _ _ 48 48 rfl (.slice (some ⟨w.heap.size,(i+m)*2,none⟩) (n+m - (i+m)) (G - (i+m))) (.slice (some ⟨g,i*2,none⟩) (n - i) (c - i)) (by simp[Act.eval,Act.put]) (by simp[Act.eval,Act.put]) (hcpB _ hF1 3 (G - (i+m)) (c - i)) ?_)
  go_wp2
  go_ret
  exact hfin _ rfl rfl rfl rfl
theorem Zsm (w:World) (s v:Value) (i:Nat) (R V:List (List Value)) (hs:owns w s 127 [.int .i64,.str] R) (hv:owns w v 127 [.int .i64,.str] V) (hne:∀k,Z2 s k->Z2 v k->False) (hi:i<=R.length) (hb:(R.length+V.length)*24<=140737488355328) : Calls Tryz.prog 192 #[s,.int .i64 i,v] w fun e w'=>∃v',e=.returned v'/\Zfd w w' s v' 127 [.int .i64,.str] (R.take i++V++R.drop i):=by
  have hs':=hs;have hv':=hv;obtain⟨hk1,hl1,ho⟩:=hs;obtain⟨hk2,hl2,hov⟩:=hv;have hu:=Tryz.underlying48;have hrl1:∀r∈R,r.length=2:=fun r hr=>(hk1 r hr).length;have hrl2:∀r∈V,r.length=2:=fun r hr=>(hk2 r hr).length;obtain⟨inf,hinf⟩:∃i0,Tryz.prog.info? 127=some i0:=by
    have:(Tryz.prog.info? 127).isSome=true:=by kernel_rfl
    exact Option.isSome_iff_exists.1 this
  have hk:inf.size=2:=by
    have:(Tryz.prog.info? 127).map (·.size)=some 2:=by kernel_rfl
    rw[hinf]at this;simpa using this
  have hby:inf.bytes=24:=by
    have:(Tryz.prog.info? 127).map (·.bytes)=some 24:=by kernel_rfl
    rw[hinf]at this;simpa using this
  obtain⟨z,hz,hzs⟩:∃z,inf.zero=some z/\z.cells.size=2:=by
    have:(Tryz.prog.info? 127).bind (fun i=>i.zero.map (fun z=>z.cells.size))=some 2:=by kernel_rfl
    rw[hinf]at this;simp only[Option.bind_some,Option.map_eq_some_iff]at this;exact this
  have hbase:∀{v:Value} {n:Nat} {xs:List Value},((v=.slice none 0 0/\n=0)\/∃g cap cur,v=.slice (some ⟨g,0,none⟩) n cap/\0<=g/\w.heap[g]?=some (.cells cur 127 (0,0))/\n<=cap/\cap<=maxLen/\cur.size=cap*2/\cur.toList.take (n*2)=xs)->∃b c,v=.slice b n c/\n<=c/\(b=none->c=0):=by
    intro v n xs h;rcases h with ⟨rfl,rfl⟩|⟨g,cap,cur,rfl,-,-,h,-⟩
    . exact⟨none,0,rfl,Nat.le_refl _,fun _=>rfl⟩
    . exact⟨some ⟨g,0,none⟩,cap,rfl,h,fun h=>by cases h⟩
  by_cases hV:V=[]
  . subst hV;obtain⟨b,c,rfl,hc1,hc2⟩:=hbase ho;obtain⟨vb,vc,rfl,-,-⟩:=hbase hov;refine(Zsk w b R.length c i vb vc hi hc1 hc2).mono ?_;rintro e w' ⟨rfl,rfl⟩;exact⟨_,rfl,by simpa using hs',fun k hk=>.inl hk,Z7i _ _⟩
  have hVl:0<V.length:=List.length_pos_iff.2 hV;by_cases hin:i=R.length
  . subst hin;obtain⟨b,c,rfl,hc1,hc2⟩:=hbase ho;obtain⟨vb,vc,rfl,-,-⟩:=hbase hov;obtain⟨v',w',h1,h2,h3,h4⟩:=Z5g (ks:=[.int .i64,.str]) (ty:=48) hu hinf hz hk hzs hby (by decide) hs' hv'.reads hb (by decide);have hrun:∀ty,(Builtin.append_ #[48,48] ty #[.slice b R.length c,.slice vb V.length vc]).run Tryz.prog w=.ok v' w':=fun ty=>h1;refine(Zws w b R.length c vb V.length vc hVl hc1 hc2 v' w' hrun).mono ?_;rintro e w1 ⟨rfl,rfl⟩;exact⟨_,rfl,by simpa using h2,h4,h3⟩
  have hin:i<R.length:=by omega
  rcases ho with ⟨-,hn⟩|⟨g,c,cur,rfl,-,hg,hnc,hcm,hcs,htk⟩
  . omega
  rcases hov with ⟨-,hn⟩|⟨vb,vc,vcur,rfl,-,hvg,hvn,-,hvs,hvt⟩
  . omega
  replace hcs:cur.size=c*2:=hcs;replace hvs:vcur.size=vc*2:=hvs;replace htk:cur.toList.take (R.length*2)=R.flatten:=htk;replace hvt:vcur.toList.take (V.length*2)=V.flatten:=hvt;replace hl1:R.flatten.length=R.length*2:=hl1;have hcl2:cur.toList.length=c*2:=by rw[Array.length_toList];exact hcs
  replace hl2:V.flatten.length=V.length*2:=hl2;have hvb:vb≠g:=fun e=>hne g rfl (by rw[<- e];rfl);have t1:cur.toList.take (i*2)=(R.take i).flatten:=by rw[<- Z1n i hrl1,<- htk,List.take_take,Nat.min_eq_left (by omega)]
  have t2:(cur.toList.drop (i*2)).take ((R.length - i)*2)=(R.drop i).flatten:=by rw[<- Z1o i hrl1,<- htk,List.drop_take,Nat.sub_mul]
  have o1:∀x∈(R.drop i).flatten,x.oneCell'=true:=Z32 fun r hr=>hk1 r (List.mem_of_mem_drop hr);have o2:∀x∈V.flatten,x.oneCell'=true:=Z32 hk2;have hrows:∀r∈R.take i++V++R.drop i,rowOk [.int .i64,.str] r:=by
    intro r hr;simp only[qy13]at hr;rcases hr with (hr|hr)|hr
    . exact hk1 r (List.mem_of_mem_take hr)
    . exact hk2 r hr
    . exact hk1 r (List.mem_of_mem_drop hr)
  have hlen:(R.take i++V++R.drop i).length=R.length+V.length:=by simp;omega
  have hfl:(R.take i++V++R.drop i).flatten.length=(R.length+V.length)*2:=by have:=Za (n:=2) (fun r hr=>(hrows r hr).length);rw[hlen]at this;exact this
  by_cases hroom:R.length+V.length<=c
  . obtain⟨cur2,hcur2⟩:∃cur2:Array Value,cur2=(cur.toList.take (i*2)++V.flatten++(R.drop i).flatten++cur.toList.drop ((R.length+V.length)*2)).toArray:=⟨_,rfl⟩
    refine(Zop w g R.length c i vb V.length vc (R.drop i).flatten V.flatten cur vcur cur2 hin hVl hroom hcm hvb hg hcs hvg (by omega) t2.symm hvt.symm o1 o2 (by rw[hcur2])).mono ?_;rintro e w' ⟨rfl,rfl⟩;have hgd:w.drew.heap[g]?=some (.cells cur 127 (0,0)):=hg;refine⟨_,rfl,⟨hrows,?_,.inr ⟨g,c,cur2,by rw[hlen],Nat.zero_le _,setRow_heap _ _ _ _ _ _ hgd,by omega,hcm,?_,?_⟩⟩,fun k hk=>.inl hk,⟨rfl,rfl,rfl,by rw[setRow_size];exact Nat.le_refl _,fun k hk hkr=>setRow_other _ _ _ _ (fun e=>hkr (by rw[e];rfl))⟩⟩
    . rw[hfl,hlen];rfl
    . show cur2.size=c*2
      rw[hcur2];have:(cur.toList.take (i*2)++V.flatten++(R.drop i).flatten).length=(R.length+V.length)*2:=by rw[t1,<- hfl];simp[List.flatten_append]
      rw[List.size_toArray,qy11,this,List.length_drop,hcl2];omega
    . have:cur.toList.take (i*2)++V.flatten++(R.drop i).flatten=(R.take i++V++R.drop i).flatten:=by
        rw[t1];simp[List.flatten_append]
      show cur2.toList.take (_*2)=_
      rw[hcur2,List.toList_toArray,this,hlen,List.take_append_of_le_length (by omega),List.take_of_length_le (by omega)]
  . refine(Zsl w g R.length c i vb V.length vc (R.take i).flatten (R.drop i).flatten V.flatten cur vcur hin hVl hnc (by omega) (by omega) hg hcs hvg (by omega) t1.symm t2.symm hvt.symm o1 o2).mono ?_;rintro e w' ⟨G,cur3,rfl,q1,q2,q3,q4,q5,q6⟩;refine⟨_,rfl,⟨hrows,?_,.inr ⟨w.heap.size,G,cur3,by rw[hlen],Nat.zero_le _,q5,by omega,q2,q3,?_⟩⟩,fun k hk=>.inr ?_,⟨q6.os,q6.tape,q6.output,q6.size,fun k hk _=>q6.block k hk (by simp)⟩⟩
    . rw[hfl,hlen];rfl
    . rw[hlen]
      show cur3.toList.take ((R.length+V.length)*2)=_
      rw[q4];simp[List.flatten_append]
    . have:w.heap.size=k:=Option.some.inj hk;omega
end Go.Proofs.YtkhakgbnfapifaaGreatDoor
namespace Go.Proofs.YtkhakgbnfapifaaGreatDoor
open Go.Sx
theorem Zsn {was:Int} {o:Opt} {l:List Opt}:optE was (o::l)=0↔(0<=o.1/\o.1<=65535)/\was<=o.1/\o.2.length<=60/\optE o.1 l=0:=by
 simp only[optE];constructor
 ·intro h;split at h
  ·split at h
   ·exact absurd h (by decide)
   ·split at h
    ·exact absurd h (by decide)
    ·exact⟨by assumption,by omega,by omega,h⟩
  ·exact absurd h (by decide)
 ·rintro⟨h1,h2,h3,h4⟩;rw[if_pos h1,if_neg (by omega),if_neg (by omega),h4]
theorem Z10i (os:List Opt) (i:Nat) (h:i<os.length):os.take (i+1)=os.take i++[os.getD i oD]:=by rw[List.take_add_one,qy1,qy7 h];rfl
abbrev kO:List Kd:=[.int .i64,.str]
abbrev Zso (w:World) (v:Value) (l:List Opt):Prop:=owns w v 127 kO (l.map encO)
def newO (n:Nat) (u:Value):Prop:=∀k,Z2 u k->n<=k
theorem Zbg (w:World):Z22 w (.slice none 0 0) []:=⟨by simp,none,0,rfl,⟨fun _=>rfl,Nat.le_refl _⟩,fun h=>absurd rfl h⟩
theorem Zme {ρ:List V} {g:List Nat} {i:Nat} (hi:i∈g) {k:Nat} (h:Z2 (ρ.getD i (.i 0)).toV k):k∈Z16 ρ g:=List.mem_flatMap.2 ⟨i,hi,by rw[h];simp⟩
theorem Zsp {v:Value} (hn:(match v with | .slice none _ _=>true|_=>false)=true) {w:World} {ks:List Kd} {rows:List (List Value)} (h:reads w v ks rows):rows=[]:=by obtain⟨_,a,cap,rfl,_,h2⟩:=h;refine Classical.byContradiction fun hne=>?_;obtain⟨ad,rfl,_⟩:=h2 hne;simp at hn
theorem Zwt (w:World) (v:Value) (l:List Opt) (hv:Z22 w v l) (hl:l.length<1000000000):Calls Tryz.prog 244 #[sc1 v] w fun e w'=>∃v',e=.returned (sc1 v')/\Zso w' v' l/\(∀k,Z2 v' k->w.heap.size<=k)/\Mod [] w w':=by
 refine Z1 (Z3 (ρ:=[.v v,.r (l.map encO)]) sxE_ok Tryz.func244 Z20 rfl rfl (Rel.start2 (by simp[Ent.holds,Ent.wr,hv,X.ev])) rfl rfl ?_) rfl;simp only[Tree.goal,X.P,X.ev,SV.ev,CV.ev,Sc.ev,qz,QA,QB,QC,QD,QE,QF,QG,QH,QI,QJ,QK,QL,QM,Nat.reduceAdd,qy3,List.nil_append];refine⟨fun h w' hr=>?_,fun h v1=>⟨by simp only[Int.natCast_zero];omega,fun v2 w' hr=>?_⟩⟩
 ·have hn:l=[]:=List.map_eq_nil_iff.1 (Zsp h hv);subst hn;exact⟨_,rfl,hr.at_ 0 rfl,hr.fresh 0 rfl,hr.mod⟩
 ·exact⟨v2,rfl,hr.at_ 0 rfl,hr.fresh 0 rfl,hr.mod⟩
theorem Z12w (w:World) (s v:Value) (l x:List Opt) (i:Nat) (hs:Zso w s l) (hv:Zso w v x) (hne:∀k,Z2 s k->Z2 v k->False) (hi:i<=l.length) (hl:l.length<1000000000) (hx:x.length<1000000000) : Calls Tryz.prog 192 #[sc1 s,.int .i64 i,sc1 v] w fun e w'=>∃v',e=.returned (sc1 v')/\Zso w' v' (l.take i++x++l.drop i)/\(∀k,Z2 v' k->Z2 s k\/w.heap.size<=k)/\Mod s.ownBlock.toList w w':=by rw[hs.reads.sc1,hv.reads.sc1];refine(Zsm w s v i _ _ hs hv hne (by simpa using hi) (by simp;omega)).mono ?_;rintro e w' ⟨v',rfl,g1,g2,g3⟩;refine⟨v',by rw[g1.reads.sc1],?_,g2,Mod.of_grown g3 fun k hk=>.inl (Option.mem_toList.2 hk)⟩;rw[Zso,List.map_append,List.map_append,List.map_take,List.map_drop];exact g1
theorem Zwu (R:List Opt) (m:Nat) (x:Opt):(R.map encO).set m [.int .i64 x.1,.string ⟨x.2.toArray⟩]=(R.set m x).map encO:=by rw[List.map_set];rfl
theorem Zmf (n:Int) (os:List Opt) (i:Nat) (h:i<os.length):noN n (os.take (i+1))=noN n (os.take i)++(if (os.getD i oD).1=n then [] else [os.getD i oD]):=by
 rw[Z10i os i h,noN,noN,List.filter_append];generalize os.getD i oD=o
 by_cases h1:o.1=n<;>simp[h1]
theorem Zsq (n:Int) (os:List Opt):(noN n os).length<=os.length:=List.length_filter_le _ _
theorem Zsr {n:Int} {os:List Opt} (h:∀j,j<os.length->(os.getD j oD).1≠n):noN n os=os:=by refine Z12u fun o ho=>?_;obtain⟨i,hi,rfl⟩:=List.getElem_of_mem ho;have:=h i hi;rwa [qy1,qy7 hi]at this
theorem Z76 (w:World) (m:Msg) (v u:Value) (n:Int) (us:List (List UInt8)) (hv:Z22 w v m.opts) (hu:Zdf w u us) (hl:m.opts.length<1000000000) (hul:us.length<1000000000) : Calls Tryz.prog 111 #[mV m (sc1 v),.int .i64 n,sc1 u] w fun e w'=>∃v',e=.returned (mV m (sc1 v'))/\Z22 w' v' (Z4f m.opts n us)/\newO w.heap.size v'/\Mod [] w w':=by
 refine Z1 (Z3 (ρ:=[.i m.kind,.i m.code,.i m.id,.s m.tok,.v v,.r (m.opts.map encO),.s m.pay,.i n,.v u,.r (us.map Z17)]) (sxE_ok.joins _) Tryz.func111 Zbr rfl rfl (Rel.start2 (by simp[Ent.holds,Ent.wr,hv,hu,X.ev])) rfl rfl ?_) rfl;simp only[Tree.goal,X.P,X.ev,SV.ev,CV.ev,Sc.ev,qz,QA,QB,QC,QD,QE,QF,QG,QH,QI,QJ,QK,QL,QM,Nat.reduceAdd,qy3,qy4,Z1e,Z1f,Ze];intro b1 b2 b3 b4 b5 w1 hr;refine(Zwt w1 v m.opts (hr.at_ 5 rfl) hl).mono ?_;rintro e w2 ⟨q,rfl,a1,f1,m1⟩;refine⟨[.v q,.r (m.opts.map encO)],rfl,rfl,m1,qy5 _,qy2.2 ⟨⟨a1,fun k hk=>.inl (f1 k hk)⟩,qy5 _⟩,Z4,?_⟩;clear hr a1 f1 m1;simp only[Tree.goal,X.P,X.ev,SV.ev,CV.ev,Sc.ev,qz,QA,QB,QC,QD,QE,QF,QG,QH,QI,QJ,QK,QL,QM,Nat.reduceAdd,qy3,qy4,Z1e,Z1f,Ze];intro b6;generalize hos:m.opts=os at hl ⊢
 refine⟨fun vs=>∃u',vs=[.i 0,.i 0,.i 0,.i 0,.i 0,.i 0,.i 0,.i 0,.i 0,.i 0,.v u',.i n,.r ((noN n os).map encO)],?_,?_⟩
 ·refine⟨fun vs=>∃(x:V) (i:Nat),vs=[x,.i i,.i n]/\i<=os.length/\∀j,j<i->(os.getD j oD).1≠n,fun vs=>(os.length - (vs.getD 1 (.i 0)).toI).toNat,⟨_,0,rfl,by omega,fun j hj=>by omega⟩,?_⟩;rintro _ - ⟨x,i,rfl,hi,hn⟩;simp only[Tree.goal,X.P,X.ev,SV.ev,CV.ev,Sc.ev,qz,QA,QB,QC,QD,QE,QF,QG,QH,QI,QJ,QK,QL,QM,Nat.reduceAdd,qy3,qy4,Z1e,Z1f,Ze];refine⟨fun h1=>?_,fun h1=>?_⟩
  ·(repeat refine⟨by omega,?_⟩)
   intro b7;refine⟨fun h2=>⟨fun h3=>by omega,fun h3=>⟨by omega,by omega,?_⟩⟩,fun h2=>?_⟩
   ·refine⟨fun vs=>∃(a j:Nat) (R:List Opt),vs=[.i a,.i j,.r (R.map encO),.i n]/\a<j/\j<=os.length/\R.length=os.length/\R.take a=noN n (os.take j)/\R.drop j=os.drop j,fun vs=>(os.length - (vs.getD 1 (.i 0)).toI).toNat,
     ⟨i,i+1,os,rfl,by omega,by omega,rfl,?_,rfl⟩,?_⟩
    ·rw[Zmf n os i (by omega),if_pos h2,List.append_nil,Zsr];intro j hj;simp only[List.length_take]at hj;have:=hn j (by omega);rw[qy1]at this ⊢;rwa [List.getElem?_take_of_lt (by omega)]
    rintro _ - ⟨a,j,R,rfl,haj,hj,hR,ht,hd⟩;simp only[Tree.goal,X.P,X.ev,SV.ev,CV.ev,Sc.ev,qz,QA,QB,QC,QD,QE,QF,QG,QH,QI,QJ,QK,QL,QM,Nat.reduceAdd,qy3,qy4,Z1e,Z1f,Ze,hR];have hg:j<os.length->R.getD j oD=os.getD j oD:=fun h=>by have:=congrArg (fun l=>l[0]?) hd;simp only[List.getElem?_drop,Nat.add_zero]at this;rw[qy1,qy1,this]
    refine⟨fun h3=>?_,fun h3=>?_⟩
    ·(repeat refine⟨by omega,?_⟩)
     intro b8 b9;have hjl:j<os.length:=by omega
     have hs1:=Zmf n os j hjl;have hg:=hg hjl;have hd':R.drop (j+1)=os.drop (j+1):=by have:=congrArg (fun l=>l.drop 1) hd;simpa [List.drop_drop,Nat.add_comm]using this
     refine⟨fun h4=>?_,fun h4=>?_⟩
     ·(repeat refine⟨by omega,?_⟩)
      refine⟨⟨a+1,j+1,R.set a (R.getD j oD),?_,by omega,by omega,by simpa using hR,?_,?_⟩,by omega⟩
      ·rw[<- Zwu];rfl
      ·rw[hs1,if_neg (by rw[<- hg];exact h4),<- ht,<- hg,Z10i _ _ (by simp;omega)];congr 1
       ·rw[List.take_set_of_le (Nat.le_refl _)]
       ·rw[qy1,List.getElem?_set_self (by omega)];rfl
      ·rw[List.drop_set_of_lt (by omega)];exact hd'
     ·(repeat refine⟨by omega,?_⟩)
      refine⟨⟨a,j+1,R,rfl,by omega,by omega,hR,?_,hd'⟩,by omega⟩;rw[hs1,if_pos (by rw[<- hg];exact qy9.1 h4),List.append_nil];exact ht
    ·have hje:j=os.length:=by omega
     subst hje;rw[List.take_length]at ht;refine⟨by omega,by omega,?_,fun u'=>⟨u',?_⟩⟩
     ·simp only[qy11,List.length_take,List.length_replicate,qy3,hR];omega
     ·congr 1
      simp only[List.cons.injEq,true_and,and_true];congr 1
      rw[List.take_append_of_le_length (by simp;omega),List.take_take,Nat.min_self,<- List.map_take,ht]
   ·(repeat refine⟨by omega,?_⟩)
    refine⟨⟨_,i+1,rfl,by omega,fun j hj=>?_⟩,by omega⟩;by_cases hji:j=i
    ·subst hji;exact h2
    ·exact hn j (by omega)
  ·have hie:i=os.length:=by omega
   subst hie;refine⟨q,?_⟩;rw[Zsr hn]
 rintro _ - ⟨u',rfl⟩;generalize hN:noN n os=R
 have hRl:R.length<1000000000:=by have:=Zsq n os;rw[hN]at this;omega
 simp only[Tree.goal,X.P,X.ev,SV.ev,CV.ev,Sc.ev,qz,QA,QB,QC,QD,QE,QF,QG,QH,QI,QJ,QK,QL,QM,Nat.reduceAdd,qy3,qy4,Z1e,Z1f,Ze];refine⟨fun vs=>∃k:Int,vs=[.i 0,.i 0,.i n,.i 0,.i k]/\((k=-1/\∀j,j<R.length->(R.getD j oD).1<=n)\/∃i:Nat,k=i/\i<R.length/\(∀j,j<i->(R.getD j oD).1<=n)/\n<(R.getD i oD).1),?_,?_⟩
 ·refine⟨fun vs=>∃(x:V) (i:Nat),vs=[x,.i i,.i n]/\i<=R.length/\∀j,j<i->(R.getD j oD).1<=n,fun vs=>(R.length - (vs.getD 1 (.i 0)).toI).toNat,⟨_,0,rfl,by omega,fun j hj=>by omega⟩,?_⟩;rintro _ - ⟨x,i,rfl,hi,hn⟩;simp only[Tree.goal,X.P,X.ev,SV.ev,CV.ev,Sc.ev,qz,QA,QB,QC,QD,QE,QF,QG,QH,QI,QJ,QK,QL,QM,Nat.reduceAdd,qy3,qy4,Z1e,Z1f,Ze];refine⟨fun h1=>?_,fun h1=>⟨-1,rfl,.inl ⟨rfl,fun j hj=>hn j (by omega)⟩⟩⟩
  (repeat refine⟨by omega,?_⟩)
  intro b7;refine⟨fun h2=>⟨i,rfl,.inr ⟨i,rfl,by omega,hn,h2⟩⟩,fun h2=>?_⟩
  (repeat refine⟨by omega,?_⟩)
  refine⟨⟨_,i+1,rfl,by omega,fun j hj=>?_⟩,by omega⟩;by_cases hji:j=i
  ·subst hji;omega
  ·exact hn j (by omega)
 rintro _ - ⟨k,rfl,hk⟩;simp only[Tree.goal,X.P,X.ev,SV.ev,CV.ev,Sc.ev,qz,QA,QB,QC,QD,QE,QF,QG,QH,QI,QJ,QK,QL,QM,Nat.reduceAdd,qy3,qy4,Z1e,Z1f,Ze];refine⟨fun vs=>∃k:Nat,vs=[.i k]/\k<=R.length/\(∀j,j<k->(R.getD j oD).1<=n)/\(k<R.length->n<(R.getD k oD).1),⟨fun h1=>?_,fun h1=>?_⟩,?_⟩
 ·rcases hk with ⟨h2,h3⟩|⟨i,h2,-⟩
  ·exact⟨R.length,rfl,Nat.le_refl _,h3,fun h=>by omega⟩
  ·omega
 ·rcases hk with ⟨h2,h3⟩|⟨i,h2,h3,h4,h5⟩
  ·omega
  ·subst h2;exact⟨i,rfl,by omega,h4,fun _=>h5⟩
 rintro _ - ⟨i,rfl,hi,h1,h2⟩;obtain⟨e1,e2⟩:=Zmd hi h1 h2;simp only[Tree.goal,X.P,X.ev,SV.ev,CV.ev,Sc.ev,qz,QA,QB,QC,QD,QE,QF,QG,QH,QI,QJ,QK,QL,QM,Nat.reduceAdd,qy3,qy4,Z1e,Z1f,Ze];refine⟨fun vs=>∃(v1:Value) (i:Nat),vs=[.v v1,.r (((us.take i).map fun x=>((n,x):Opt)).map encO),.i i]/\i<=us.length,fun vs=>(us.length - (vs.getD 2 (.i 0)).toI).toNat,⟨_,0,rfl,by omega⟩,?_⟩;rintro _ - ⟨v1,j,rfl,hj⟩;simp only[Tree.goal,X.P,X.ev,SV.ev,CV.ev,Sc.ev,qz,QA,QB,QC,QD,QE,QF,QG,QH,QI,QJ,QK,QL,QM,Nat.reduceAdd,qy3,qy4,Z1e,Z1f,Ze];refine⟨fun h3=>?_,fun h3 w3 hr=>?_⟩
 ·(repeat refine⟨by omega,?_⟩)
  intro v2;refine⟨by simp;omega,fun v3=>⟨by omega,by omega,⟨v3,j+1,?_,by omega⟩,by omega⟩⟩;rw[List.take_add_one,List.map_append,List.map_append,qy7 (by omega),qy1,qy7 (by omega)];rfl
 ·have:j=us.length:=by omega
  subst this;rw[List.take_length]at hr;refine(Z12w w3 u' v1 R _ i (hr.at_ 1 rfl) (hr.at_ 0 rfl) (fun k h5 h6=>hr.sep.disj (i:=1) (j:=0) rfl rfl (by omega) (.inl rfl) (k:=k) h5 h6) hi hRl (by simpa using hul)).mono ?_;rintro e w4 ⟨v',rfl,g1,g2,g3⟩;refine⟨[.v v',.r ((R.take i++(us.map fun x=>((n,x):Opt))++R.drop i).map encO)],rfl,rfl,g3.mono fun k hk=>.inl (by unfold Zv;exact List.mem_append_right _ (Zme (i:=28) (by simp) (Option.mem_toList.1 hk))),qy5 _,qy2.2 ⟨⟨g1,fun k hk=>?_⟩,qy5 _⟩,Z4,?_⟩
  ·rcases g2 k hk with h5|h5
   ·exact .inr (.inr (Zme (i:=28) (by simp) h5))
   ·exact .inl h5
  ·intro w5 hr5;refine⟨v',rfl,?_,hr5.fresh 0 rfl,hr5.mod⟩;have:=(hr5.at_ 0 rfl).reads;rw[e1,e2]at this;rw[Z22,Z4f,hN];exact this
end Go.Proofs.YtkhakgbnfapifaaGreatDoor
namespace Go.Proofs
open Go.Shelf
def Tryz.lays144_ren:Go.Shelf.Ren:=⟨fun|144=>226|143=>281|219=>316|217=>340|225=>341|224=>342|267=>343|266=>353|314=>354|n=>n,fun|9=>9|4=>4|3=>3|5=>5|46=>207|146=>345|51=>297|n=>n,fun|1=>0|n=>n⟩
theorem Tryz.lays144:Go.Proofs.Lays.n144 Tryz.prog Tryz.lays144_ren:={
 mixed:=by kernel_rfl
 f143:=Tryz.func281.trans (congrArg some (by kernel_rfl))
 f144:=Tryz.func226.trans (congrArg some (by kernel_rfl))
 f217:=Tryz.func340.trans (congrArg some (by kernel_rfl))
 f219:=Tryz.func316.trans (congrArg some (by kernel_rfl))
 f224:=Tryz.func342.trans (congrArg some (by kernel_rfl))
 f225:=Tryz.func341.trans (congrArg some (by kernel_rfl))
 f266:=Tryz.func353.trans (congrArg some (by kernel_rfl))
 f267:=Tryz.func343.trans (congrArg some (by kernel_rfl))
 f314:=Tryz.func354.trans (congrArg some (by kernel_rfl))
 t3:=Tryz.underlying3
 a3:=Tryz.isAgg3
 z3:=Tryz.sizeOf3
 v3:=Tryz.zeroValue3
 t4:=Tryz.underlying4
 a4:=Tryz.isAgg4
 z4:=Tryz.sizeOf4
 v4:=Tryz.zeroValue4
 t5:=Tryz.underlying5
 a5:=Tryz.isAgg5
 z5:=Tryz.sizeOf5
 v5:=Tryz.zeroValue5
 t9:=Tryz.underlying9
 a9:=Tryz.isAgg9
 z9:=Tryz.sizeOf9
 v9:=Tryz.zeroValue9
 t46:=Tryz.underlying207
 a46:=Tryz.isAgg207
 z46:=Tryz.sizeOf207
 v46:=Tryz.zeroValue207
 t51:=Tryz.underlying297
 a51:=Tryz.isAgg297
 z51:=Tryz.sizeOf297
 v51:=Tryz.zeroValue297
 t146:=Tryz.underlying345
 a146:=Tryz.isAgg345
 z146:=Tryz.sizeOf345
 v146:=Tryz.zeroValue345
 g1:=by kernel_rfl }
def Tryz.lays161_ren:Go.Shelf.Ren:=⟨fun|161=>300|231=>331|227=>324|233=>332|235=>333|228=>325|197=>336|151=>351|260=>352|152=>322|137=>348|119=>349|224=>342|225=>341|217=>340|266=>353|n=>n,fun|9=>9|4=>4|3=>3|5=>5|117=>317|116=>316|0=>0|124=>328|105=>331|21=>21|119=>348|46=>207|139=>351|138=>350|n=>n,fun|3=>1|4=>2|n=>n⟩
theorem Tryz.lays161:Go.Proofs.Lays.n161 Tryz.prog Tryz.lays161_ren:={
 mixed:=by kernel_rfl
 f119:=Tryz.func349.trans (congrArg some (by kernel_rfl))
 f137:=Tryz.func348.trans (congrArg some (by kernel_rfl))
 f151:=Tryz.func351.trans (congrArg some (by kernel_rfl))
 f152:=Tryz.func322.trans (congrArg some (by kernel_rfl))
 f161:=Tryz.func300.trans (congrArg some (by kernel_rfl))
 f197:=Tryz.func336.trans (congrArg some (by kernel_rfl))
 f217:=Tryz.func340.trans (congrArg some (by kernel_rfl))
 f224:=Tryz.func342.trans (congrArg some (by kernel_rfl))
 f225:=Tryz.func341.trans (congrArg some (by kernel_rfl))
 f227:=Tryz.func324.trans (congrArg some (by kernel_rfl))
 f228:=Tryz.func325.trans (congrArg some (by kernel_rfl))
 f231:=Tryz.func331.trans (congrArg some (by kernel_rfl))
 f233:=Tryz.func332.trans (congrArg some (by kernel_rfl))
 f235:=Tryz.func333.trans (congrArg some (by kernel_rfl))
 f260:=Tryz.func352.trans (congrArg some (by kernel_rfl))
 f266:=Tryz.func353.trans (congrArg some (by kernel_rfl))
 t0:=Tryz.underlying0
 a0:=Tryz.isAgg0
 z0:=Tryz.sizeOf0
 v0:=Tryz.zeroValue0
 t3:=Tryz.underlying3
 a3:=Tryz.isAgg3
 z3:=Tryz.sizeOf3
 v3:=Tryz.zeroValue3
 t4:=Tryz.underlying4
 a4:=Tryz.isAgg4
 z4:=Tryz.sizeOf4
 v4:=Tryz.zeroValue4
 t5:=Tryz.underlying5
 a5:=Tryz.isAgg5
 z5:=Tryz.sizeOf5
 v5:=Tryz.zeroValue5
 t9:=Tryz.underlying9
 a9:=Tryz.isAgg9
 z9:=Tryz.sizeOf9
 v9:=Tryz.zeroValue9
 t21:=Tryz.underlying21
 a21:=Tryz.isAgg21
 z21:=Tryz.sizeOf21
 v21:=Tryz.zeroValue21
 t46:=Tryz.underlying207
 a46:=Tryz.isAgg207
 z46:=Tryz.sizeOf207
 v46:=Tryz.zeroValue207
 t105:=Tryz.underlying331
 a105:=Tryz.isAgg331
 z105:=Tryz.sizeOf331
 v105:=Tryz.zeroValue331
 t116:=Tryz.underlying316
 a116:=Tryz.isAgg316
 z116:=Tryz.sizeOf316
 t117:=Tryz.underlying317
 a117:=Tryz.isAgg317
 z117:=Tryz.sizeOf317
 v117:=Tryz.zeroValue317
 t119:=Tryz.underlying348
 a119:=Tryz.isAgg348
 z119:=Tryz.sizeOf348
 t124:=Tryz.underlying328
 a124:=Tryz.isAgg328
 z124:=Tryz.sizeOf328
 v124:=Tryz.zeroValue328
 t138:=Tryz.underlying350
 a138:=Tryz.isAgg350
 z138:=Tryz.sizeOf350
 v138:=Tryz.zeroValue350
 t139:=Tryz.underlying351
 a139:=Tryz.isAgg351
 z139:=Tryz.sizeOf351
 v139:=Tryz.zeroValue351
 g3:=by kernel_rfl
 g4:=by kernel_rfl }
def Tryz.lays156_ren:Go.Shelf.Ren:=⟨fun|156=>227|165=>282|166=>283|169=>253|240=>317|241=>318|276=>344|277=>345|n=>n,fun|31=>155|9=>9|3=>3|4=>4|0=>0|20=>20|72=>260|76=>284|70=>258|37=>241|75=>283|127=>305|164=>336|5=>5|80=>266|n=>n,fun|n=>n⟩
theorem Tryz.lays156:Go.Proofs.Lays.n156 Tryz.prog Tryz.lays156_ren:={
 mixed:=by kernel_rfl
 f156:=Tryz.func227.trans (congrArg some (by kernel_rfl))
 f165:=Tryz.func282.trans (congrArg some (by kernel_rfl))
 f166:=Tryz.func283.trans (congrArg some (by kernel_rfl))
 f169:=Tryz.func253.trans (congrArg some (by kernel_rfl))
 f240:=Tryz.func317.trans (congrArg some (by kernel_rfl))
 f241:=Tryz.func318.trans (congrArg some (by kernel_rfl))
 f276:=Tryz.func344.trans (congrArg some (by kernel_rfl))
 f277:=Tryz.func345.trans (congrArg some (by kernel_rfl))
 t0:=Tryz.underlying0
 a0:=Tryz.isAgg0
 z0:=Tryz.sizeOf0
 v0:=Tryz.zeroValue0
 t3:=Tryz.underlying3
 a3:=Tryz.isAgg3
 z3:=Tryz.sizeOf3
 v3:=Tryz.zeroValue3
 t4:=Tryz.underlying4
 a4:=Tryz.isAgg4
 z4:=Tryz.sizeOf4
 v4:=Tryz.zeroValue4
 t9:=Tryz.underlying9
 a9:=Tryz.isAgg9
 z9:=Tryz.sizeOf9
 v9:=Tryz.zeroValue9
 t20:=Tryz.underlying20
 a20:=Tryz.isAgg20
 z20:=Tryz.sizeOf20
 v20:=Tryz.zeroValue20
 t31:=Tryz.underlying155
 a31:=Tryz.isAgg155
 z31:=Tryz.sizeOf155
 v31:=Tryz.zeroValue155
 t37:=Tryz.underlying241
 a37:=Tryz.isAgg241
 z37:=Tryz.sizeOf241
 v37:=Tryz.zeroValue241
 t70:=Tryz.underlying258
 a70:=Tryz.isAgg258
 z70:=Tryz.sizeOf258
 v70:=Tryz.zeroValue258
 t72:=Tryz.underlying260
 a72:=Tryz.isAgg260
 z72:=Tryz.sizeOf260
 v72:=Tryz.zeroValue260
 t75:=Tryz.underlying283
 a75:=Tryz.isAgg283
 z75:=Tryz.sizeOf283
 v75:=Tryz.zeroValue283
 t76:=Tryz.underlying284
 a76:=Tryz.isAgg284
 z76:=Tryz.sizeOf284
 v76:=Tryz.zeroValue284
 t127:=Tryz.underlying305
 a127:=Tryz.isAgg305
 z127:=Tryz.sizeOf305
 v127:=Tryz.zeroValue305
 t164:=Tryz.underlying336
 a164:=Tryz.isAgg336
 z164:=Tryz.sizeOf336
 v164:=Tryz.zeroValue336 }
end Go.Proofs
namespace Go.Proofs.YtkhakgbnfapifaaGreatDoor
open Go.Sx
theorem Z10j (w:World) (s:List UInt8):Calls Tryz.prog 300 #[.string ⟨s.toArray⟩,.string ⟨#[0]⟩] w fun e w'=>e=.returned (.string ⟨(s.dropWhile fun c=>c == 0).toArray⟩)/\Mod [] w w':=by refine(Z1 (Any.strings_TrimLeft_one Tryz.lays161 ⟨s.toArray⟩ 0 (by decide) w) rfl).mono ?_;rintro e w' ⟨rfl,rfl⟩;exact⟨rfl,Mod.refl _ _⟩
theorem Zss (s:List UInt8) (c:UInt8):decide (0<=Go.Lib.indexByte s c)=s.any fun b=>b == c:=by rw[<- Go.Lib.contains_iff_indexByte,Bool.eq_iff_iff];simp only[List.contains_iff_mem,List.any_eq_true,beq_iff_eq];exact⟨fun h=>⟨c,h,rfl⟩,fun ⟨x,h,e⟩=>e▸h⟩
theorem Z14s (w:World) (s:List UInt8):Calls Tryz.prog 226 #[.string ⟨s.toArray⟩,.string ⟨#[47]⟩] w fun e w'=>e=.returned (.bool (s.any fun c=>c == 47))/\Mod [] w w':=by refine(Z1 (Any.strings_Contains_one Tryz.lays144 ⟨s.toArray⟩ 47 w) rfl).mono ?_;rintro e w' ⟨rfl,rfl⟩;exact⟨by rw[<- Zss],Mod.refl _ _⟩
theorem Zy9:Builder.Extra Tryz.prog Tryz.lays156_ren where
 sizeBuilder:=by kernel_rfl
 liesBuilder:=by kernel_rfl
 t5:=Tryz.underlying5
 a5:=Tryz.isAgg5
 z5:=Tryz.sizeOf5
 v5:=Tryz.zeroValue5
 infoByte:=by kernel_rfl
 cellsByte:=by kernel_rfl
 sizeByte:=by kernel_rfl
 neB5:=by decide
theorem Zay:∀ps:List (List UInt8),Go.Lib.join ps [47]=Z3d ps
 | []=>rfl
 | [x]=>Go.Lib.join_one x [47]
 | x::y::r=>by have:=Zay (y::r);rw[Go.Lib.join_cons]at this ⊢;rw[Z3d,<- this];simp[Go.Lib.joinTail]
theorem Zj0:∀ps:List (List UInt8),(ps.map Z17).flatten=ps.map fun p=>Value.string ⟨p.toArray⟩
 | []=>rfl
 | p::ps=>by simp only[List.map_cons,List.flatten_cons,Zj0 ps];rfl
theorem Zwv (w:World) (v:Value) (ps:List (List UInt8)) (hv:owns w v 9 [.str] (ps.map Z17)) (hl:ps.length<=140737488355328) (hb:(Z3d ps).length<=140737488355328) : Calls Tryz.prog 227 #[sc1 v,.string ⟨#[47]⟩] w fun e w'=>e=.returned (.string ⟨(Z3d ps).toArray⟩)/\Mod [] w w':=by
 rw[hv.reads.sc1];obtain⟨hk,hlen,ho⟩:=hv;rcases ho with ⟨rfl,hn⟩|⟨g,c,cur,rfl,-,hg,hnc,hcm,hcs,htk⟩
 ·have:ps=[]:=by simpa using hn
  subst this;refine(Z1 (Any.strings_Join_none Tryz.lays156 Zy9 none 0 ⟨#[47]⟩ w) rfl).mono ?_;rintro e w' ⟨rfl,rfl⟩;exact⟨rfl,Mod.refl _ _⟩
 ·have hgs:g<w.heap.size:=by
   have:=(Array.getElem?_eq_some_iff.1 hg).1;exact this
  have e1:(ps.map fun p=>(⟨p.toArray⟩:ByteArray)).map (fun x=>x.data.toList)=ps:=by simp[List.map_map,Function.comp_def]
  have hfl:(ps.map Z17).flatten=ps.map fun p=>Value.string ⟨p.toArray⟩:=by exact Zj0 ps
  rw[hfl]at htk;have:=Any.strings_Join Tryz.lays156 Zy9 g 0 c (ps.map fun p=>(⟨p.toArray⟩:ByteArray)) ⟨#[47]⟩ w (fun j x hj=>?_) hgs (by simpa using hl) (by simpa using hnc) (by rw[e1];show (Go.Lib.join ps [47]).length<=_;rw[Zay];exact hb)
  ·rw[e1,show (⟨#[47]⟩:ByteArray).data.toList=[47] from rfl,Zay,qy3]at this;rw[qy3];refine(Z1 this rfl).mono ?_;rintro e w' ⟨rfl,h⟩;exact⟨rfl,Mod.of_below h⟩
  ·rw[List.getElem?_map,Option.map_eq_some_iff]at hj;obtain⟨p,hp,rfl⟩:=hj;have h1:=congrArg (fun l=>l[j]?) htk;simp only[List.getElem?_map,hp,Option.map_some]at h1;rw[List.getElem?_take_of_lt (by have:=(List.getElem?_eq_some_iff.1 hp).1;simpa using this)]at h1;simp only[World.cell?,hg,Nat.zero_add];simpa using h1
theorem Z8j (w:World) (n:Int) (h:0<=n/\n<=16777215):Calls Tryz.prog 243 #[.int .i64 n] w fun e w'=>e=.returned (.string ⟨(Z1l n).toArray⟩)/\Mod [] w w':=by refine Z1 (Z7 (ρ:=[.i n]) sxE_ok Tryz.func243 Zah rfl rfl rfl ?_) rfl;simp only[Tree.goal,X.P,X.ev,SV.ev,CV.ev,Sc.ev,qz,QA,QB,QC,QD,QE,QF,QG,QH,QI,QJ,QK,QL,QM,Nat.reduceAdd];refine⟨[.s (numB 3 n)],rfl,fun _ w' _=>Z104 w' n 3 (by omega) (by omega) (by omega),?_⟩;simp only[Tree.goal,X.P,X.ev,SV.ev,CV.ev,Sc.ev,qz,QA,QB,QC,QD,QE,QF,QG,QH,QI,QJ,QK,QL,QM,Nat.reduceAdd];refine⟨[.s (Z1l n)],rfl,fun _ w' _=>Z10j w' _,?_⟩;simp only[Tree.goal,X.P,X.ev,SV.ev,CV.ev,Sc.ev,qz,QA,QB,QC,QD,QE,QF,QG,QH,QI,QJ,QK,QL,QM,Nat.reduceAdd];exact fun w' hr=>⟨by trivial,hr.mod⟩
theorem Z9b:∀l:List UInt8,(l.dropWhile fun c=>c == 0).length<=l.length
 | []=>Nat.le_refl _
 | c::l=>by have:=Z9b l;rw[List.dropWhile_cons];split<;>simp only[List.length_cons]<;>omega
theorem Zst (n:Int) (os:List Opt) (i:Nat) (h:i<os.length):Zg n (os.take (i+1))=Zg n (os.take i)++(if (os.getD i oD).1=n then [(os.getD i oD).2] else []):=by
 rw[Z10i os i h,Zci];generalize os.getD i oD=o
 by_cases h1:o.1=n<;>simp[Zg,h1]
theorem Zmg (n:Int) (os:List Opt):(Zg n os).length<=os.length:=by rw[Zg,qy3];exact List.length_filter_le _ _
theorem Zoq {n:Int} {os:List Opt} {i:Nat} (h:i<os.length) (h1:∀j,j<i->(os.getD j oD).1≠n) (h2:(os.getD i oD).1=n):∃r,Zg n os=(os.getD i oD).2::r:=by
 have e:os=os.take i++os.drop i:=(List.take_append_drop i os).symm;have e0:Zg n (os.take i)=[]:=by refine Z74 fun o ho=>?_;obtain⟨j,hj,rfl⟩:=List.getElem_of_mem ho;simp only[List.length_take]at hj;have:=h1 j (by omega);rw[qy1,qy7 (by omega)]at this;rw[List.getElem_take];exact this
 have e1:Zg n (os.drop i)=(os.getD i oD).2::Zg n (os.drop (i+1)):=by
  rw[Z12t os i h];generalize os.getD i oD=o at h2
  simp[Zg,List.filter_cons,h2]
 exact⟨_,by rw[e,Zci,<- e,e0,e1];rfl⟩
theorem Zww {n:Int} {os:List Opt} (h:∀j,j<os.length->(os.getD j oD).1≠n):Zg n os=[]:=by refine Z74 fun o ho=>?_;obtain⟨j,hj,rfl⟩:=List.getElem_of_mem ho;have:=h j hj;rwa [qy1,qy7 hj]at this
theorem Zmh (w:World) (m:Msg) (v:Value) (n:Int) (hv:Z22 w v m.opts) (hl:m.opts.length<1000000000) : Calls Tryz.prog 184 #[mV m (sc1 v),.int .i64 n] w fun e w'=>e=.returned (.tuple #[.int .i64 (Z4g n m.opts).1,.int .i64 (Z4g n m.opts).2])/\Mod [] w w':=by
 refine Z1 (Z3 (ρ:=[.i m.kind,.i m.code,.i m.id,.s m.tok,.v v,.r (m.opts.map encO),.s m.pay,.i n]) sxE_ok Tryz.func184 Z9g rfl rfl (Rel.start2 (by simp[Ent.holds,Ent.wr,hv,X.ev])) rfl rfl ?_) rfl;simp only[Tree.goal,X.P,X.ev,SV.ev,CV.ev,Sc.ev,qz,QA,QB,QC,QD,QE,QF,QG,QH,QI,QJ,QK,QL,QM,Nat.reduceAdd,qy3,qy4,Z1e,Z1f,Ze];intro b1 b2;generalize m.opts=os at hl ⊢
 refine⟨fun vs=>∃(x:V) (i:Nat),vs=[x,.i i,.i n]/\i<=os.length/\∀j,j<i->(os.getD j oD).1≠n,fun vs=>(os.length - (vs.getD 1 (.i 0)).toI).toNat,⟨_,0,rfl,by omega,fun j hj=>by omega⟩,?_⟩;rintro _ - ⟨x,i,rfl,hi,hn⟩;simp only[Tree.goal,X.P,X.ev,SV.ev,CV.ev,Sc.ev,qz,QA,QB,QC,QD,QE,QF,QG,QH,QI,QJ,QK,QL,QM,Nat.reduceAdd,qy3,qy4,Z1e,Z1f,Ze];refine⟨fun h1=>?_,fun h1 w' hr=>⟨?_,hr.mod⟩⟩
 ·(repeat refine⟨by omega,?_⟩)
  intro b3;refine⟨fun h2=>?_,fun h2=>?_⟩
  ·obtain⟨r,e⟩:=Zoq (by omega) hn h2;have eu:Z4g n os=Zeo (os.getD i oD).2:=by rw[Z4g,e]
   rw[eu];generalize (os.getD i oD).2=s
   refine⟨fun h3=>by omega,fun _=>⟨fun h3 w' hr=>⟨by rw[Zeo,if_pos h3],hr.mod⟩,fun h3=>⟨fun h4 w' hr=>⟨by subst h4;rfl,hr.mod⟩,fun h4=>?_⟩⟩⟩;have eg:getR s 0 s.length=Zeo s:=by have:=List.length_pos_iff.2 h4;rw[getR,if_pos (by omega),if_pos (by omega),if_neg (by omega),Zeo,if_neg h3];simp
   refine⟨[.i (Zeo s).1,.i (Zeo s).2],rfl,fun _ w' _=>?_,?_⟩
   ·have:=Z108 w' s 0 s.length (by omega);rw[eg]at this;exact this
   ·simp only[Tree.goal,X.P,X.ev,SV.ev,CV.ev,Sc.ev,qz,QA,QB,QC,QD,QE,QF,QG,QH,QI,QJ,QK,QL,QM,Nat.reduceAdd];exact fun w' hr=>⟨by trivial,hr.mod⟩
  ·(repeat refine⟨by omega,?_⟩)
   refine⟨⟨_,i+1,rfl,by omega,fun j hj=>?_⟩,by omega⟩;by_cases hji:j=i
   ·subst hji;exact h2
   ·exact hn j (by omega)
 ·rw[Z4g,Zww fun j hj=>hn j (by omega)]
theorem Zdy (b:Nat):∀(l:List (List UInt8)),(∀x∈l,x.length<=b)->(Z3d l).length<=l.length*(b+1)
 | [],_=>by simp[Z3d]
 | [y],h=>by have:=h y (by simp);simp[Z3d];omega
 | y::z::l,h=>by have h1:=Zdy b (z::l) fun x hx=>h x (qy10 _ hx);have h2:=h y (by simp);simp only[Z3d,qy11,List.length_cons,Nat.add_mul]at h1 ⊢;omega
theorem Zmi:∀{os:List Opt} {was:Int},optE was os=0->∀o∈os,o.2.length<=60
 | [],_,_,o,ho=>by simp at ho
 | x::os,was,h,o,ho=>by
  obtain⟨-,-,h3,h4⟩:=Zsn.1 h;rcases List.mem_cons.1 ho with rfl|ho
  ·exact h3
  ·exact Zmi h4 o ho
theorem Zwx {n:Int} {os:List Opt} {x:List UInt8} (h:x∈Zg n os):∃o∈os,o.2=x:=by simp only[Zg,List.mem_map,List.mem_filter]at h;obtain⟨o,⟨h1,-⟩,h2⟩:=h;exact⟨o,h1,h2⟩
theorem Zsu {os:List Opt} (h:Zg 11 os=[]):Z1p os=([],5):=if_pos h
theorem Zwy {os:List Opt} (h:¬Zg 11 os=[]) (h1:¬chkT (Z3d (Zg 11 os)) false=0):Z1p os=([],chkT (Z3d (Zg 11 os)) false):=by rw[Z1p,if_neg h,if_neg h1]
theorem Zsv {os:List Opt} (h:¬Zg 11 os=[]) (h1:chkT (Z3d (Zg 11 os)) false=0) (h2:(Zg 11 os).any (fun v=>v.any fun c=>c == 47)=true):Z1p os=([],1):=by rw[Z1p,if_neg h,if_pos h1,if_pos h2]
theorem Zsw {os:List Opt} (h:¬Zg 11 os=[]) (h1:chkT (Z3d (Zg 11 os)) false=0) (h2:¬(Zg 11 os).any (fun v=>v.any fun c=>c == 47)=true):Z1p os=(Z3d (Zg 11 os),0):=by rw[Z1p,if_neg h,if_pos h1,if_neg h2]
theorem Zmj (w:World) (m:Msg) (v:Value) (hv:Z22 w v m.opts) (hc:chk m=0) : Calls Tryz.prog 169 #[mV m (sc1 v)] w fun e w'=>e=.returned (.tuple #[.string ⟨(Z1p m.opts).1.toArray⟩,.int .i64 (Z1p m.opts).2])/\Mod [] w w':=by
 obtain⟨-,-,hl,ho,-⟩:=Zbf.1 hc;refine Z1 (Z3 (ρ:=[.i m.kind,.i m.code,.i m.id,.s m.tok,.v v,.r (m.opts.map encO),.s m.pay]) sxE_ok Tryz.func169 Z9d rfl rfl (Rel.start2 (by simp[Ent.holds,Ent.wr,hv,X.ev])) rfl rfl ?_) rfl;simp only[Tree.goal,X.P,X.ev,SV.ev,CV.ev,Sc.ev,qz,QA,QB,QC,QD,QE,QF,QG,QH,QI,QJ,QK,QL,QM,Nat.reduceAdd,qy3,qy4,Z1e,Z1f,Ze];intro b1;replace hl:=hl.2.1;generalize m.opts=os at hl ho ⊢
 have hvl:=Zmg 11 os;have hul:(Z3d (Zg 11 os)).length<=12*61:=Nat.le_trans (Zdy 60 _ fun x hx=>by obtain⟨o,h1,rfl⟩:=Zwx hx;exact Zmi ho o h1) (by omega);refine⟨fun vs=>∃(s:Value) (i:Nat),vs=[.v s,.r ((Zg 11 (os.take i)).map Z17),.b ((Zg 11 (os.take i)).any fun v=>v.any fun c=>c == 47),.i i]/\i<=os.length,fun vs=>(os.length - (vs.getD 3 (.i 0)).toI).toNat,⟨_,0,rfl,by omega⟩,?_⟩;rintro _ - ⟨s,i,rfl,hi⟩;simp only[Tree.goal,X.P,X.ev,SV.ev,CV.ev,Sc.ev,qz,QA,QB,QC,QD,QE,QF,QG,QH,QI,QJ,QK,QL,QM,Nat.reduceAdd,qy3,qy4,Z1e,Z1f,Ze];refine⟨fun h1=>?_,fun h1=>?_⟩
 ·have hs:=Zst 11 os i (by omega);have hvi:=Zmg 11 (os.take i);rw[List.length_take]at hvi
  (repeat refine⟨by omega,?_⟩)
  intro b2;refine⟨fun h2 v1=>⟨by simp;omega,fun v2=>?_⟩,fun h2=>?_⟩
  ·rw[if_pos h2]at hs;refine⟨[.b ((os.getD i oD).2.any fun c=>c == 47)],rfl,fun _ w' _=>Z14s w' _,?_⟩;simp only[Tree.goal,X.P,X.ev,SV.ev,CV.ev,Sc.ev,qz,QA,QB,QC,QD,QE,QF,QG,QH,QI,QJ,QK,QL,QM,Nat.reduceAdd,qy3,qy4,Z1e,Z1f,Ze];refine⟨by omega,by omega,⟨v2,i+1,?_,by omega⟩,by omega⟩;rw[hs];simp[Z17]
  ·rw[if_neg h2,List.append_nil]at hs
   (repeat refine⟨by omega,?_⟩)
   exact⟨⟨s,i+1,by rw[hs];rfl,by omega⟩,by omega⟩
 ·have:i=os.length:=by omega
  subst this;rw[List.take_length];refine⟨fun h2 w' hr=>⟨?_,hr.mod⟩,fun h2=>?_⟩
  ·rw[Zsu (List.length_eq_zero_iff.1 (by omega))]
  have h2:¬Zg 11 os=[]:=fun h=>h2 (by rw[h];rfl);refine⟨[.s (Z3d (Zg 11 os))],rfl,fun _ w' hr=>Zwv w' s _ (hr.at_ 0 rfl) (by omega) (by omega),?_⟩;simp only[Tree.goal,X.P,X.ev,SV.ev,CV.ev,Sc.ev,qz,QA,QB,QC,QD,QE,QF,QG,QH,QI,QJ,QK,QL,QM,Nat.reduceAdd];refine⟨[.i (chkT (Z3d (Zg 11 os)) false)],rfl,fun _ w' hr=>Zf6 w' _ (by omega),?_⟩;simp only[Tree.goal,X.P,X.ev,SV.ev,CV.ev,Sc.ev,qz,QA,QB,QC,QD,QE,QF,QG,QH,QI,QJ,QK,QL,QM,Nat.reduceAdd];refine⟨fun h3=>⟨fun _ w' hr=>⟨?_,hr.mod⟩,fun h=>(h (by decide)).elim⟩,fun h3=>⟨fun h4 w' hr=>⟨?_,hr.mod⟩,fun h4 w' hr=>⟨?_,hr.mod⟩⟩⟩
  ·rw[Zsv h2 h3.1 h3.2]
  ·rw[Zwy h2 h4]
  ·have h4:=qy9.1 h4;rw[Zsw h2 h4 fun h=>h3 ⟨h4,h⟩]
def Zbh (n:Nat) (v:Value) (os:List Opt):Prop:=∀k,(os.map encO).flatten≠[]/\Z2 v k->n<=k
theorem Zbh.mono {n m:Nat} {v:Value} {os:List Opt} (h:Zbh n v os) (hm:m<=n):Zbh m v os:=fun k hk=>Nat.le_trans hm (h k hk)
theorem Zor (n:Nat) (v:Value):Zbh n v []:=fun k hk=>absurd rfl hk.1
def mGet:Msg:=⟨0,1,258,[116],[(6,[]),(11,[97]),(11,[98])],[]⟩
theorem Zaz (w:World):Calls Tryz.prog 64 #[] w fun e w'=>∃v,e=.returned (mV mGet (sc1 v))/\Z22 w' v mGet.opts/\Zbh w.heap.size v mGet.opts/\Mod [] w w':=by
 refine Z1 (Z7 (ρ:=[]) sxE_ok Tryz.func64 Z7r rfl rfl rfl ?_) rfl;simp only[Tree.goal,X.P,X.ev,SV.ev,CV.ev,Sc.ev,qz,QA,QB,QC,QD,QE,QF,QG,QH,QI,QJ,QK,QL,QM,Nat.reduceAdd];intro b v w' hr;refine⟨v,rfl,owns.reads (hr.at_ 0 rfl),fun k hk=>?_,hr.mod⟩;rcases hr.own _ (qy8 ..) rfl k hk.2 with h|h
 ·exact h
 ·simp at h
theorem Zmk (x y:Nat) (hx:x<2 ^ 62) (hy:y<2 ^ 62):Z4n .or .i64 (x:Int) (y:Int)=((x ||| y:Nat):Int):=by
 have h:x ||| y<2 ^ 62:=Nat.or_lt_two_pow hx hy
 have e:(BitVec.ofInt 64 (x:Int) ||| BitVec.ofInt 64 (y:Int)).toNat=x ||| y:=by rw[BitVec.toNat_or,BitVec.ofInt_natCast,BitVec.ofInt_natCast,BitVec.toNat_ofNat,BitVec.toNat_ofNat,Nat.mod_eq_of_lt (by omega),Nat.mod_eq_of_lt (by omega)]
 show IntKind.i64.wrap ((BitVec.ofInt 64 (x:Int) ||| BitVec.ofInt 64 (y:Int)).toNat:Int)=_
 rw[e,IntKind.wrap_i64];omega
theorem Zj1 (x y:Nat) (hx:x<2 ^ 62) (hy:y<2 ^ 62):Z4n .and .i64 (x:Int) (y:Int)=((x &&& y:Nat):Int):=by
 have h:x &&& y<2 ^ 62:=Nat.and_lt_two_pow _ hy;have e:(BitVec.ofInt 64 (x:Int) &&& BitVec.ofInt 64 (y:Int)).toNat=x &&& y:=by rw[BitVec.toNat_and,BitVec.ofInt_natCast,BitVec.ofInt_natCast,BitVec.toNat_ofNat,BitVec.toNat_ofNat,Nat.mod_eq_of_lt (by omega),Nat.mod_eq_of_lt (by omega)]
 show IntKind.i64.wrap ((BitVec.ofInt 64 (x:Int) &&& BitVec.ofInt 64 (y:Int)).toNat:Int)=_
 rw[e,IntKind.wrap_i64];omega
theorem Z12x (a s t:Nat) (hs:s<16) (ht:t<16):(16*a+s) ||| t=16*a+(s ||| t):=by
 have h1:((16*a+s) ||| t) / 2 ^ 4=((16*a+s) / 2 ^ 4) ||| (t / 2 ^ 4):=Nat.or_div_two_pow ..
 have h2:((16*a+s) ||| t) % 2 ^ 4=((16*a+s) % 2 ^ 4) ||| (t % 2 ^ 4):=Nat.or_mod_two_pow ..
 have e1:(16*a+s) / 2 ^ 4=a:=by omega
 have e2:(16*a+s) % 2 ^ 4=s:=by omega
 have e3:t / 2 ^ 4=0:=by omega
 have e4:t % 2 ^ 4=t:=by omega
 rw[e1,e3,Nat.or_zero]at h1;rw[e2,e4]at h2;omega
theorem Zya (x t:Nat) (ht:t<16):x &&& t=(x % 16) &&& t:=by
 have h1:(x &&& t) / 2 ^ 4=(x / 2 ^ 4) &&& (t / 2 ^ 4):=Nat.and_div_two_pow ..;have h2:(x &&& t) % 2 ^ 4=(x % 2 ^ 4) &&& (t % 2 ^ 4):=Nat.and_mod_two_pow ..;have e3:t / 2 ^ 4=0:=by omega
 have e4:t % 2 ^ 4=t:=by omega
 rw[e3,Nat.and_zero]at h1;rw[e4]at h2;replace h1:(x &&& t) / 16=0:=h1;replace h2:(x &&& t) % 16=(x % 16) &&& t:=h2;omega
theorem and8 (n:Nat) (h:n<2 ^ 62):(!decide (Z4n .and .i64 (n:Int) 8=0))=decide ((n:Int) / 8 % 2=1):=by
 have e:Z4n .and .i64 (n:Int) 8=((n &&& 8:Nat):Int):=Zj1 n 8 h (by decide);rw[e,Zya n 8 (by decide)];have:∀x:Fin 16,(!decide (((x.val &&& 8:Nat):Int)=0))=decide (x.val / 8 % 2=1):=by decide +kernel
 have:=this ⟨n % 16,by omega⟩;simp only at this;rw[this];exact decide_eq_decide.2 (by omega)
theorem and7 (n:Nat) (h:n<2 ^ 62):Z4n .and .i64 (n:Int) 7=(n:Int) % 8:=by
 have e:Z4n .and .i64 (n:Int) 7=((n &&& 7:Nat):Int):=Zj1 n 7 h (by decide);rw[e,Zya n 7 (by decide)];have:∀x:Fin 16,x.val &&& 7=x.val % 8:=by decide +kernel
 have:=this ⟨n % 16,by omega⟩;simp only at this;rw[this];omega
theorem shr4 (n:Nat):((n:Int)).fdiv (2 ^ (Nat.min (Int.toNat 4) IntKind.i64.bits))=(n:Int) / 16:=by
 show ((n:Int)).fdiv 16=_
 rw[Int.fdiv_eq_ediv_of_nonneg _ (by decide)]
theorem Z10k (b:Bk) (h:blkE b=0):(if b.2.1=true then Z4n .or .i64 (Z4n .or .i64 (IntKind.i64.wrap (b.1*2 ^ (Nat.min (Int.toNat 4) IntKind.i64.bits))) b.2.2) 8 else Z4n .or .i64 (IntKind.i64.wrap (b.1*2 ^ (Nat.min (Int.toNat 4) IntKind.i64.bits))) b.2.2)=blkN b:=by
 obtain⟨n,m,s⟩:=b;unfold blkE at h;split at h
 ·rename_i hb;simp only at hb ⊢;obtain⟨a,rfl⟩:∃a:Nat,n=a:=⟨n.toNat,by omega⟩
  obtain⟨t,rfl⟩:∃a:Nat,s=a:=⟨s.toNat,by omega⟩
  have e0:IntKind.i64.wrap ((a:Int)*2 ^ (Nat.min (Int.toNat 4) IntKind.i64.bits))=((16*a:Nat):Int):=by
   show IntKind.i64.wrap ((a:Int)*16)=_
   rw[IntKind.wrap_i64];omega
  have e1:Z4n .or .i64 ((16*a:Nat):Int) (t:Int)=((16*a+t:Nat):Int):=by rw[Zmk _ _ (by omega) (by omega)];have:=Z12x a 0 t (by decide) (by omega);rw[Nat.add_zero,Nat.zero_or]at this;rw[this]
  have e2:Z4n .or .i64 ((16*a+t:Nat):Int) 8=((16*a+t+8:Nat):Int):=by
   have e:Z4n .or .i64 ((16*a+t:Nat):Int) 8=(((16*a+t) ||| 8:Nat):Int):=Zmk _ 8 (by omega) (by decide);rw[e,Z12x a t 8 (by omega) (by decide)];have:∀x:Fin 8,x.val ||| 8=x.val+8:=by decide +kernel
   have:=this ⟨t,by omega⟩;simp only at this;rw[this];rfl
  rw[e0,e1,e2]
  show _=16*(a:Int)+(t:Int)+(if m=true then 8 else 0)
  cases m<;>simp
 ·cases h
theorem Zwz (v:List UInt8):0<=(Zeo v).1/\(Zeo v).1<=16777215:=by
 unfold Zeo;split
 ·decide
 ·have hb:=Zy5 v 0;have hp:pw v.length<=pw 3:=Zs1 (by omega);have hp3:pw 3=16777216:=rfl;simp only;omega
theorem Zx0 (n:Int) (os:List Opt):0<=(Z4g n os).1/\(Z4g n os).1<=16777215:=by
 unfold Z4g;split
 ·decide
 ·exact Zwz _
theorem Zx1 (m:Msg) (n:Int):0<=(Z3t m n).1/\(Z3t m n).1<=16777215:=by
 unfold Z3t;split
 ·exact Zx0 _ _
 ·show (0:Int)<=0/\(0:Int)<=16777215
  decide
abbrev bdM (m:Msg):Prop:=m.opts.length<1000000000/\m.tok.length<1099511627776/\m.pay.length<1099511627776
theorem Z6a (w:World) (m:Msg) (v:Value) (hv:Z22 w v m.opts) (hb:bdM m) : Calls Tryz.prog 85 #[mV m (sc1 v)] w fun e w'=>e=.returned (.int .i64 (chk m))/\Mod [] w w':=Zsf w m v hv (by have:=hb.1;omega) hb.2.1 hb.2.2
theorem Z12y (w:World) (m:Msg) (v:Value) (hv:Z22 w v m.opts) (hb:bdM m) : Calls Tryz.prog 105 #[mV m (sc1 v)] w fun e w'=>e=.returned (.tuple #[.string ⟨(Zkm m).1.toArray⟩,.int .i64 (Zkm m).2])/\Mod [] w w':=by refine Z1 (Z3 (ρ:=[.i m.kind,.i m.code,.i m.id,.s m.tok,.v v,.r (m.opts.map encO),.s m.pay]) sxE_ok Tryz.func105 Zbq rfl rfl (Rel.start2 (by simp[Ent.holds,Ent.wr,hv,X.ev])) rfl rfl ?_) rfl;simp only[Tree.goal,X.P,X.ev,SV.ev,CV.ev,Sc.ev,qz,QA,QB,QC,QD,QE,QF,QG,QH,QI,QJ,QK,QL,QM,Nat.reduceAdd,qy3,qy4,Z1e,Z1f,Ze];intro b1;refine⟨[.i (chk m)],rfl,fun _ w' hr=>Z6a w' m v (hr.at_ 1 rfl) hb,?_⟩;simp only[Tree.goal,X.P,X.ev,SV.ev,CV.ev,Sc.ev,qz,QA,QB,QC,QD,QE,QF,QG,QH,QI,QJ,QK,QL,QM,Nat.reduceAdd];refine⟨fun h w' hr=>⟨by rw[Zkm,if_neg h],hr.mod⟩,fun h=>?_⟩;have h:=qy9.1 h;refine⟨[.s (Z1p m.opts).1,.i (Z1p m.opts).2],rfl,fun _ w' hr=>Zmj w' m v (hr.at_ 1 rfl) h,?_⟩;simp only[Tree.goal,X.P,X.ev,SV.ev,CV.ev,Sc.ev,qz,QA,QB,QC,QD,QE,QF,QG,QH,QI,QJ,QK,QL,QM,Nat.reduceAdd];exact fun w' hr=>⟨by rw[Zkm,if_pos h],hr.mod⟩
theorem Zsx (w:World) (m:Msg) (v:Value) (n:Int) (hv:Z22 w v m.opts) (hb:bdM m) : Calls Tryz.prog 106 #[mV m (sc1 v),.int .i64 n] w fun e w'=>e=.returned (.tuple #[.int .i64 (Z3t m n).1,.int .i64 (Z3t m n).2])/\Mod [] w w':=by refine Z1 (Z3 (ρ:=[.i m.kind,.i m.code,.i m.id,.s m.tok,.v v,.r (m.opts.map encO),.s m.pay,.i n]) sxE_ok Tryz.func106 Zbv rfl rfl (Rel.start2 (by simp[Ent.holds,Ent.wr,hv,X.ev])) rfl rfl ?_) rfl;simp only[Tree.goal,X.P,X.ev,SV.ev,CV.ev,Sc.ev,qz,QA,QB,QC,QD,QE,QF,QG,QH,QI,QJ,QK,QL,QM,Nat.reduceAdd,qy3,qy4,Z1e,Z1f,Ze];intro b1;refine⟨[.i (chk m)],rfl,fun _ w' hr=>Z6a w' m v (hr.at_ 1 rfl) hb,?_⟩;simp only[Tree.goal,X.P,X.ev,SV.ev,CV.ev,Sc.ev,qz,QA,QB,QC,QD,QE,QF,QG,QH,QI,QJ,QK,QL,QM,Nat.reduceAdd];refine⟨fun h w' hr=>⟨by rw[Z3t,if_neg h],hr.mod⟩,fun h=>?_⟩;have h:=qy9.1 h;refine⟨[.i (Z4g n m.opts).1,.i (Z4g n m.opts).2],rfl,fun _ w' hr=>Zmh w' m v n (hr.at_ 1 rfl) hb.1,?_⟩;simp only[Tree.goal,X.P,X.ev,SV.ev,CV.ev,Sc.ev,qz,QA,QB,QC,QD,QE,QF,QG,QH,QI,QJ,QK,QL,QM,Nat.reduceAdd];exact fun w' hr=>⟨by rw[Z3t,if_pos h],hr.mod⟩
def bV (b:Bk):Value:=.agg #[.int .i64 b.1,.bool b.2.1,.int .i64 b.2.2]
theorem Zsy (w:World) (b:Bk):Calls Tryz.prog 186 #[bV b] w fun e w'=>e=.returned (.int .i64 (blkE b))/\Mod [] w w':=by refine Z1 (Z7 (ρ:=[.i b.1,.b b.2.1,.i b.2.2]) sxE_ok Tryz.func186 Zar rfl rfl rfl ?_) rfl;simp only[Tree.goal,X.P,X.ev,SV.ev,CV.ev,Sc.ev,qz,QA,QB,QC,QD,QE,QF,QG,QH,QI,QJ,QK,QL,QM,Nat.reduceAdd];refine fun b1=>⟨fun h w' hr=>⟨by rw[blkE,if_neg (by omega)],hr.mod⟩,fun h w' hr=>⟨by rw[blkE,if_pos (by omega)],hr.mod⟩⟩
theorem Z10l (w:World) (m:Msg) (v:Value) (hv:Z22 w v m.opts) (hb:bdM m) : Calls Tryz.prog 109 #[mV m (sc1 v)] w fun e w'=>e=.returned (.tuple #[bV (Z84 m).1,.int .i64 (Z84 m).2])/\Mod [] w w':=by
 refine Z1 (Z3 (ρ:=[.i m.kind,.i m.code,.i m.id,.s m.tok,.v v,.r (m.opts.map encO),.s m.pay]) sxE_ok Tryz.func109 Zak rfl rfl (Rel.start2 (by simp[Ent.holds,Ent.wr,hv,X.ev])) rfl rfl ?_) rfl;simp only[Tree.goal,X.P,X.ev,SV.ev,CV.ev,Sc.ev,qz,QA,QB,QC,QD,QE,QF,QG,QH,QI,QJ,QK,QL,QM,Nat.reduceAdd,qy3,qy4,Z1e,Z1f,Ze];intro b1 b2;refine⟨[.i (Z3t m 23).1,.i (Z3t m 23).2],rfl,fun _ w' hr=>Zsx w' m v 23 (hr.at_ 2 rfl) hb,?_⟩;simp only[Tree.goal,X.P,X.ev,SV.ev,CV.ev,Sc.ev,qz,QA,QB,QC,QD,QE,QF,QG,QH,QI,QJ,QK,QL,QM,Nat.reduceAdd];refine⟨fun h w' hr=>⟨by rw[Z84,if_neg h];rfl,hr.mod⟩,fun h b3=>?_⟩;have h:=qy9.1 h;have hbd:=Zx1 m 23;have e0:Z84 m=if blkE (nBlk (Z3t m 23).1)=0 then (nBlk (Z3t m 23).1,0) else ((0,false,0),blkE (nBlk (Z3t m 23).1)):=by rw[Z84,if_pos h]
 generalize (Z3t m 23).1=n at hbd e0 ⊢
 obtain⟨a,rfl⟩:∃a:Nat,n=a:=⟨n.toNat,by omega⟩
 rw[shr4,and8 a (by omega),and7 a (by omega)];refine⟨[.i (blkE (nBlk a))],rfl,fun _ w' hr=>Zsy w' (nBlk a),?_⟩;simp only[Tree.goal,X.P,X.ev,SV.ev,CV.ev,Sc.ev,qz,QA,QB,QC,QD,QE,QF,QG,QH,QI,QJ,QK,QL,QM,Nat.reduceAdd];exact⟨fun h1 w' hr=>⟨by rw[e0,if_neg h1];rfl,hr.mod⟩,fun h1 w' hr=>⟨by rw[e0,if_pos (qy9.1 h1)];rfl,hr.mod⟩⟩
def Zml (w w':World) (e:Ending) (r:Msg×Int):Prop:=∃v',e=.returned (.tuple #[mV r.1 (sc1 v'),.int .i64 r.2])/\Z22 w' v' r.1.opts/\Zbh w.heap.size v' r.1.opts/\Mod [] w w'
theorem Z45 {w w':World} {er:Int} (h:Mod [] w w'):Zml w w' (.returned (.tuple #[mV mNil (sc1 (.slice none 0 0)),.int .i64 er])) (mNil,er):=⟨_,rfl,Zbg _,Zor _ _,h⟩
theorem Zmm {m:Msg} {n:Int} {us:List (List UInt8)} (h:bdM m) (hu:us.length<1000000) (hm:m.opts.length<=12):bdM (Zdx m n us):=by
 refine⟨?_,h.2.1,h.2.2⟩
 show (Z4f m.opts n us).length<_
 have h1:=congrArg List.length (Zdw n (noN n m.opts));have h2:=Zsq n m.opts;simp only[Z4f,qy11,qy3]at h1 ⊢;omega
theorem Zfo (w:World) (m:Msg) (v:Value) (n x:Int) (hv:Z22 w v m.opts) (hb:bdM m) : Calls Tryz.prog 107 #[mV m (sc1 v),.int .i64 n,.int .i64 x] w fun e w'=>Zml w w' e (Zz m n x):=by
 refine Z1 (Z3 (ρ:=[.i m.kind,.i m.code,.i m.id,.s m.tok,.v v,.r (m.opts.map encO),.s m.pay,.i n,.i x]) (sxE_ok.joins _) Tryz.func107 Z7t rfl rfl (Rel.start2 (by simp[Ent.holds,Ent.wr,hv,X.ev])) rfl rfl ?_) rfl;simp only[Tree.goal,X.P,X.ev,SV.ev,CV.ev,Sc.ev,qz,QA,QB,QC,QD,QE,QF,QG,QH,QI,QJ,QK,QL,QM,Nat.reduceAdd,qy3,qy4,Z1e,Z1f,Ze];intro b1 b2;refine⟨[.i (chk m)],rfl,fun _ w' hr=>Z6a w' m v (hr.at_ 2 rfl) hb,?_⟩;simp only[Tree.goal,X.P,X.ev,SV.ev,CV.ev,Sc.ev,qz,QA,QB,QC,QD,QE,QF,QG,QH,QI,QJ,QK,QL,QM,Nat.reduceAdd];refine⟨fun vs=>∃y:Int,vs=[.i y]/\y=(if chk m=0 then (if 0<=x/\x<=16777215 then 0 else 3) else chk m),⟨fun h=>⟨3,rfl,by rw[if_pos h.1,if_neg (by omega)]⟩,fun h=>⟨_,rfl,?_⟩⟩,?_⟩
 ·by_cases h1:chk m=0
  ·rw[if_pos h1,if_pos (by omega),h1]
  ·rw[if_neg h1]
 rintro _ - ⟨y,rfl,hy⟩;simp only[Tree.goal,X.P,X.ev,SV.ev,CV.ev,Sc.ev,qz,QA,QB,QC,QD,QE,QF,QG,QH,QI,QJ,QK,QL,QM,Nat.reduceAdd];refine⟨fun h w' hr=>?_,fun h b3 b4=>?_⟩
 ·have e:Zz m n x=(mNil,y):=by
   rw[Zz];by_cases h1:chk m=0
   ·rw[if_pos h1]at hy ⊢;by_cases h2:0<=x/\x<=16777215
    ·rw[if_pos h2]at hy;exact absurd hy h
    ·rw[if_neg h2]at hy ⊢;rw[hy]
   ·rw[if_neg h1]at hy ⊢;rw[hy]
  rw[e];exact Z45 hr.mod
 have h:=qy9.1 h;rw[h]at hy;have h1:chk m=0:=Classical.byContradiction fun h1=>by rw[if_neg h1]at hy;exact h1 hy.symm
 rw[if_pos h1]at hy;have h2:0<=x/\x<=16777215:=Classical.byContradiction fun h2=>by rw[if_neg h2]at hy;cases hy
 have e:Zz m n x=outR (Zdx m n [Z1l x]):=by rw[Zz,if_pos h1,if_pos h2]
 rw[e];have hm12:=(Zbf.1 h1).2.2.1.2.1;refine⟨[.s (Z1l x)],rfl,fun _ w' hr=>Z8j w' x h2,fun u w1 hr=>?_⟩;have hu:=(hr.at_ 0 rfl).reads;refine(Z76 w1 m v u n [Z1l x] (hr.at_ 5 rfl) hu (by omega) (by simp)).mono ?_;rintro e w2 ⟨v',rfl,r1,f1,m1⟩;replace f1:Zbh w1.heap.size v' (Z4f m.opts n [Z1l x]):=fun k hk=>f1 k hk.2;refine⟨[.i m.kind,.i m.code,.i m.id,.s m.tok,.v v',.r ((Z4f m.opts n [Z1l x]).map encO),.s m.pay],rfl,rfl,m1,qy5 _,qy2.2 ⟨⟨r1,fun k hk=>.inl (f1 k hk)⟩,qy5 _⟩,Z4,?_⟩;have hsz:=hr.mod.size;clear hr r1 m1 hu;simp only[Tree.goal,X.P,X.ev,SV.ev,CV.ev,Sc.ev,qz,QA,QB,QC,QD,QE,QF,QG,QH,QI,QJ,QK,QL,QM,Nat.reduceAdd];intro b5 b6;refine⟨[.i (chk (Zdx m n [Z1l x]))],rfl,fun _ w' hr=>Z6a w' (Zdx m n [Z1l x]) v' (hr.at_ 2 rfl) (Zmm hb (by simp) hm12),?_⟩;simp only[Tree.goal,X.P,X.ev,SV.ev,CV.ev,Sc.ev,qz,QA,QB,QC,QD,QE,QF,QG,QH,QI,QJ,QK,QL,QM,Nat.reduceAdd];refine⟨fun h3 w' hr=>?_,fun h3 w' hr=>?_⟩
 ·rw[outR,if_neg h3];exact Z45 hr.mod
 ·rw[outR,if_pos (qy9.1 h3)];exact⟨v',rfl,hr.at_ 2 rfl,f1.mono hsz,hr.mod⟩
theorem Zsz {ρ:List V} {es:List Ent} (h:∀e∈es,e.wr=false):Z2s ρ es:=by refine List.pairwise_iff_forall_sublist.2 fun {a b} hs hw=>?_;have h1:=h a (hs.subset (by simp));have h2:=h b (hs.subset (by simp));rw[h1,h2]at hw;simp at hw
section
variable (w:World) (p:Pkt) (u v:Value) (hu:Z82 w u p.asks) (hv:Z72 w v p.codes) (hs:SmallP p)
include hu hv
theorem Z10m:Calls Tryz.prog 121 #[pV p u v] w fun e w'=>∃x y,e=.returned (pV (Z30 p) x y)/\Z82 w' x (Z30 p).asks/\Z72 w' y (Z30 p).codes /\ (x=u/\(Z30 p).asks=p.asks\/(Z30 p).asks=[])/\(y=v/\(Z30 p).codes=p.codes\/(Z30 p).codes=[])/\Mod [] w w':=by
 refine Z1 (Z3 (ρ:=[.i p.kind,.b p.dup,.b p.retain,.b p.clean,.b p.session,.i p.qos,.i p.id,.i p.keep,.i p.code,.s p.client,.s p.topic,.s p.payload,.v u,.r (p.asks.map encA),.v v,.r (p.codes.map Z1h)]) sxE_ok Tryz.func121 Zbu rfl rfl (Rel.start2 (by simp[Ent.holds,Ent.wr,hu,hv,X.ev])) rfl rfl ?_) rfl;simp only[Tree.goal,X.P,X.ev,SV.ev,CV.ev,Sc.ev,qz,QA,QB,QC,QD,QE,QF,QG,QH,QI,QJ,QK,QL,QM,Nat.reduceAdd];intro b1 b2;have g4:∀q:Pkt,q.kind=p.kind->p.kind≠1->p.kind≠2->p.kind≠3->(p.kind=4\/p.kind=11)->Z30 p={ p with id:=0 }:=fun q _ h1 h2 h3 h=>by rw[Z30,if_neg h1,if_neg h2,if_neg h3,if_pos h]
 have g8:p.kind≠1->p.kind≠2->p.kind≠3->¬(p.kind=4\/p.kind=11)->(p.kind=8\/p.kind=10)->Z30 p={ p with id:=0,asks:=[] }:=fun h1 h2 h3 h4 h=>by rw[Z30,if_neg h1,if_neg h2,if_neg h3,if_neg h4,if_pos h]
 refine⟨fun h1 w' hr=>?_,fun h1=>⟨fun h2 w' hr=>?_,fun h2=>⟨fun h3 w' hr=>?_,fun h3=>⟨fun h4 w' hr=>?_,fun h4=>⟨fun h5 w' hr=>?_,fun h5=>⟨fun h6 w' hr=>?_,fun h6=>⟨fun h7 w' hr=>?_,fun h7=>⟨fun h8 w' hr=>?_,fun h8 w' hr=>?_⟩⟩⟩⟩⟩⟩⟩⟩
 ·have e:Z30 p={ p with client:=[],clean:=false,keep:=0 }:=by rw[Z30,if_pos h1]
  rw[e];exact⟨u,v,rfl,hr.at_ 2 rfl,hr.at_ 3 rfl,.inl ⟨rfl,rfl⟩,.inl ⟨rfl,rfl⟩,hr.mod⟩
 ·have e:Z30 p={ p with code:=0,session:=false }:=by rw[Z30,if_neg h1,if_pos h2]
  rw[e];exact⟨u,v,rfl,hr.at_ 2 rfl,hr.at_ 3 rfl,.inl ⟨rfl,rfl⟩,.inl ⟨rfl,rfl⟩,hr.mod⟩
 ·have e:Z30 p={ p with dup:=false,qos:=0,retain:=false,topic:=[],payload:=[],id:=0 }:=by rw[Z30,if_neg h1,if_neg h2,if_pos h3]
  rw[e];exact⟨u,v,rfl,hr.at_ 2 rfl,hr.at_ 3 rfl,.inl ⟨rfl,rfl⟩,.inl ⟨rfl,rfl⟩,hr.mod⟩
 ·rw[g4 p rfl h1 h2 h3 (.inl h4)];exact⟨u,v,rfl,hr.at_ 2 rfl,hr.at_ 3 rfl,.inl ⟨rfl,rfl⟩,.inl ⟨rfl,rfl⟩,hr.mod⟩
 ·rw[g4 p rfl h1 h2 h3 (.inr h5)];exact⟨u,v,rfl,hr.at_ 2 rfl,hr.at_ 3 rfl,.inl ⟨rfl,rfl⟩,.inl ⟨rfl,rfl⟩,hr.mod⟩
 ·rw[g8 h1 h2 h3 (by omega) (.inl h6)];exact⟨.slice none 0 0,v,rfl,Zfk _,hr.at_ 3 rfl,.inr rfl,.inl ⟨rfl,rfl⟩,hr.mod⟩
 ·rw[g8 h1 h2 h3 (by omega) (.inr h7)];exact⟨.slice none 0 0,v,rfl,Zfk _,hr.at_ 3 rfl,.inr rfl,.inl ⟨rfl,rfl⟩,hr.mod⟩
 ·have e:Z30 p={ p with id:=0,codes:=[] }:=by rw[Z30,if_neg h1,if_neg h2,if_neg h3,if_neg (by omega),if_neg (by omega),if_pos h8]
  rw[e];exact⟨u,.slice none 0 0,rfl,hr.at_ 2 rfl,Zof _,.inl ⟨rfl,rfl⟩,.inr rfl,hr.mod⟩
 ·have e:Z30 p=p:=by rw[Z30,if_neg h1,if_neg h2,if_neg h3,if_neg (by omega),if_neg (by omega),if_neg h8]
  rw[e];exact⟨u,v,rfl,hr.at_ 2 rfl,hr.at_ 3 rfl,.inl ⟨rfl,rfl⟩,.inl ⟨rfl,rfl⟩,hr.mod⟩
include hs
theorem Zcj:Calls Tryz.prog 125 #[pV p u v] w fun e w'=>e=.returned (.int .i64 (Z3f p))/\Mod [] w w':=by
 refine Z1 (Z3 (ρ:=[.i p.kind,.b p.dup,.b p.retain,.b p.clean,.b p.session,.i p.qos,.i p.id,.i p.keep,.i p.code,.s p.client,.s p.topic,.s p.payload,.v u,.r (p.asks.map encA),.v v,.r (p.codes.map Z1h)]) sxE_ok Tryz.func125 Zan rfl rfl (Rel.start2 (by simp[Ent.holds,Ent.wr,hu,hv,X.ev])) rfl rfl ?_) rfl;simp only[Tree.goal,X.P,X.ev,SV.ev,CV.ev,Sc.ev,qz,QA,QB,QC,QD,QE,QF,QG,QH,QI,QJ,QK,QL,QM,Nat.reduceAdd];intro b;refine⟨fun h1=>?_,fun h1=>⟨fun h2=>?_,fun h2=>⟨fun h3=>?_,fun h3=>⟨fun h4=>?_,fun h4=>⟨fun h5=>?_,fun h5=>⟨fun h6=>?_,fun h6 w' hr=>⟨?_,hr.mod⟩⟩⟩⟩⟩⟩⟩
 ·refine⟨[.i (Zkg p)],rfl,fun _ w' hr=>Zoh w' p u v (hr.at_ 1 rfl) (hr.at_ 2 rfl) hs,?_⟩;simp only[Tree.goal,X.P,X.ev,SV.ev,CV.ev,Sc.ev,qz,QA,QB,QC,QD,QE,QF,QG,QH,QI,QJ,QK,QL,QM,Nat.reduceAdd];exact fun w' hr=>⟨by rw[Z3f,if_pos h1],hr.mod⟩
 ·refine⟨[.i (Z7j p)],rfl,fun _ w' hr=>Zog w' p u v (hr.at_ 1 rfl) (hr.at_ 2 rfl),?_⟩;simp only[Tree.goal,X.P,X.ev,SV.ev,CV.ev,Sc.ev,qz,QA,QB,QC,QD,QE,QF,QG,QH,QI,QJ,QK,QL,QM,Nat.reduceAdd];exact fun w' hr=>⟨by rw[Z3f,if_neg h1,if_pos h2],hr.mod⟩
 ·refine⟨[.i (pubE p)],rfl,fun _ w' hr=>Zfl w' p u v (hr.at_ 1 rfl) (hr.at_ 2 rfl) hs,?_⟩;simp only[Tree.goal,X.P,X.ev,SV.ev,CV.ev,Sc.ev,qz,QA,QB,QC,QD,QE,QF,QG,QH,QI,QJ,QK,QL,QM,Nat.reduceAdd];exact fun w' hr=>⟨by rw[Z3f,if_neg h1,if_neg h2,if_pos h3],hr.mod⟩
 ·refine⟨[.i (Zit p)],rfl,fun _ w' hr=>Zs5 w' p u v (hr.at_ 1 rfl) (hr.at_ 2 rfl) hs,?_⟩;simp only[Tree.goal,X.P,X.ev,SV.ev,CV.ev,Sc.ev,qz,QA,QB,QC,QD,QE,QF,QG,QH,QI,QJ,QK,QL,QM,Nat.reduceAdd];exact fun w' hr=>⟨by rw[Z3f,if_neg h1,if_neg h2,if_neg h3,if_pos (.inl h4)],hr.mod⟩
 ·refine⟨[.i (Zit p)],rfl,fun _ w' hr=>Zs5 w' p u v (hr.at_ 1 rfl) (hr.at_ 2 rfl) hs,?_⟩;simp only[Tree.goal,X.P,X.ev,SV.ev,CV.ev,Sc.ev,qz,QA,QB,QC,QD,QE,QF,QG,QH,QI,QJ,QK,QL,QM,Nat.reduceAdd];exact fun w' hr=>⟨by rw[Z3f,if_neg h1,if_neg h2,if_neg h3,if_pos (.inr h5)],hr.mod⟩
 ·refine⟨[.i (Ziu p)],rfl,fun _ w' hr=>Zwj w' p u v (hr.at_ 1 rfl) (hr.at_ 2 rfl) hs,?_⟩;simp only[Tree.goal,X.P,X.ev,SV.ev,CV.ev,Sc.ev,qz,QA,QB,QC,QD,QE,QF,QG,QH,QI,QJ,QK,QL,QM,Nat.reduceAdd];exact fun w' hr=>⟨by rw[Z3f,if_neg h1,if_neg h2,if_neg h3,if_neg (by omega),if_pos h6],hr.mod⟩
 ·rw[Z3f,if_neg h1,if_neg h2,if_neg h3,if_neg (by omega),if_neg h6]
theorem Zx2:Calls Tryz.prog 34 #[pV p u v] w fun e w'=>e=.returned (.int .i64 (chkP p))/\Mod [] w w':=by
 refine Z1 (Z3 (ρ:=[.i p.kind,.b p.dup,.b p.retain,.b p.clean,.b p.session,.i p.qos,.i p.id,.i p.keep,.i p.code,.s p.client,.s p.topic,.s p.payload,.v u,.r (p.asks.map encA),.v v,.r (p.codes.map Z1h)]) sxE_ok Tryz.func34 Zaq rfl rfl (Rel.start2 (by simp[Ent.holds,Ent.wr,hu,hv,X.ev])) rfl rfl ?_) rfl;simp only[Tree.goal,X.P,X.ev,SV.ev,CV.ev,Sc.ev,qz,QA,QB,QC,QD,QE,QF,QG,QH,QI,QJ,QK,QL,QM,Nat.reduceAdd];intro b;refine⟨[.b (Zoe p.kind)],rfl,fun _ w' _=>Z109 w' _,?_⟩;simp only[Tree.goal,X.P,X.ev,SV.ev,CV.ev,Sc.ev,qz,QA,QB,QC,QD,QE,QF,QG,QH,QI,QJ,QK,QL,QM,Nat.reduceAdd];refine⟨fun h w' hr=>⟨by rw[chkP,if_neg h],hr.mod⟩,fun h=>?_⟩;have h:=qy9.1 h;rw[chkP,if_pos h];intro w1 hr;refine(Z10m w1 p u v (hr.at_ 1 rfl) (hr.at_ 2 rfl)).mono ?_;rintro e w2 ⟨x,y,rfl,rx,ry,ex,ey,m2⟩;generalize hq:Z30 p=q at rx ry ex ey ⊢
 have hsq:SmallP q:=by rw[<- hq];exact hs.bare
 refine⟨[.i q.kind,.b q.dup,.b q.retain,.b q.clean,.b q.session,.i q.qos,.i q.id,.i q.keep,.i q.code,.s q.client,.s q.topic,.s q.payload,.v x,.r (q.asks.map encA),.v y,.r (q.codes.map Z1h)],rfl,rfl,m2,qy5 _,qy2.2 ⟨⟨rx,fun k hk=>.inr (.inl ⟨rfl,?_⟩)⟩,qy2.2 ⟨⟨ry,fun k hk=>.inr (.inl ⟨rfl,?_⟩)⟩,qy5 _⟩⟩,Zsz (by simp[Ent.wr]),?_⟩
 ·rcases ex with ⟨rfl,e1⟩|e1
  ·refine⟨_,qy10 _ (qy8 ..),rfl,?_⟩;simp only[Ent.fp,Tree.goal,X.P,X.ev,SV.ev,CV.ev,Sc.ev,qz,QA,QB,QC,QD,QE,QF,QG,QH,QI,QJ,QK,QL,QM,Nat.reduceAdd]at hk ⊢;rw[e1]at hk;exact hk
  ·simp only[Ent.fp,Tree.goal,X.P,X.ev,SV.ev,CV.ev,Sc.ev,qz,QA,QB,QC,QD,QE,QF,QG,QH,QI,QJ,QK,QL,QM,Nat.reduceAdd,e1]at hk;exact absurd rfl hk.1
 ·rcases ey with ⟨rfl,e1⟩|e1
  ·refine⟨_,qy10 _ (qy10 _ (qy8 ..)),rfl,?_⟩;simp only[Ent.fp,Tree.goal,X.P,X.ev,SV.ev,CV.ev,Sc.ev,qz,QA,QB,QC,QD,QE,QF,QG,QH,QI,QJ,QK,QL,QM,Nat.reduceAdd]at hk ⊢;rw[e1]at hk;exact hk
  ·simp only[Ent.fp,Tree.goal,X.P,X.ev,SV.ev,CV.ev,Sc.ev,qz,QA,QB,QC,QD,QE,QF,QG,QH,QI,QJ,QK,QL,QM,Nat.reduceAdd,e1]at hk;exact absurd rfl hk.1
 simp only[Tree.goal,X.P,X.ev,SV.ev,CV.ev,Sc.ev,qz,QA,QB,QC,QD,QE,QF,QG,QH,QI,QJ,QK,QL,QM,Nat.reduceAdd];refine⟨[.b (Zir q)],rfl,fun _ w' hr=>Zwi w' q x y (hr.at_ 0 rfl) (hr.at_ 1 rfl) hsq,?_⟩;simp only[Tree.goal,X.P,X.ev,SV.ev,CV.ev,Sc.ev,qz,QA,QB,QC,QD,QE,QF,QG,QH,QI,QJ,QK,QL,QM,Nat.reduceAdd];refine⟨fun h w' hr=>⟨by rw[if_neg h],hr.mod⟩,fun h=>?_⟩;have h:=qy9.1 h;rw[if_pos h];refine⟨fun h1=>?_,fun h1=>?_⟩
 ·refine⟨[.i (pubE p)],rfl,fun _ w' hr=>Zfl w' p u v (hr.at_ 3 rfl) (hr.at_ 4 rfl) hs,?_⟩;simp only[Tree.goal,X.P,X.ev,SV.ev,CV.ev,Sc.ev,qz,QA,QB,QC,QD,QE,QF,QG,QH,QI,QJ,QK,QL,QM,Nat.reduceAdd];refine⟨fun h2 w' hr=>⟨by rw[if_pos ⟨h1,h2⟩],hr.mod⟩,fun h2=>?_⟩;have hn:¬(p.kind=3/\pubE p≠0):=fun hh=>h2 hh.2;refine⟨[.b (idB p)],rfl,fun _ w' hr=>Z12o w' p u v (hr.at_ 3 rfl) (hr.at_ 4 rfl),?_⟩;simp only[Tree.goal,X.P,X.ev,SV.ev,CV.ev,Sc.ev,qz,QA,QB,QC,QD,QE,QF,QG,QH,QI,QJ,QK,QL,QM,Nat.reduceAdd];refine⟨fun h3=>⟨fun h4 w' hr=>⟨?_,hr.mod⟩,fun h4=>?_⟩,fun h3=>?_⟩;(· rw[if_neg (by assumption),if_pos ⟨h3,h4⟩]);(· rw[if_neg (by assumption),if_neg (fun hh=>h4 hh.2)];refine⟨[.i (Z3f p)],rfl,fun _ w' hr=>Zcj w' p u v (hr.at_ 3 rfl) (hr.at_ 4 rfl) hs,?_⟩;simp only[Tree.goal,X.P,X.ev,SV.ev,CV.ev,Sc.ev,qz,QA,QB,QC,QD,QE,QF,QG,QH,QI,QJ,QK,QL,QM,Nat.reduceAdd];exact fun w' hr=>⟨by trivial,hr.mod⟩);(· rw[if_neg (by assumption),if_neg (fun hh=>h3 hh.1)];refine⟨[.i (Z3f p)],rfl,fun _ w' hr=>Zcj w' p u v (hr.at_ 3 rfl) (hr.at_ 4 rfl) hs,?_⟩;simp only[Tree.goal,X.P,X.ev,SV.ev,CV.ev,Sc.ev,qz,QA,QB,QC,QD,QE,QF,QG,QH,QI,QJ,QK,QL,QM,Nat.reduceAdd];exact fun w' hr=>⟨by trivial,hr.mod⟩)
 ·have hn:¬(p.kind=3/\pubE p≠0):=fun hh=>h1 hh.1;refine⟨[.b (idB p)],rfl,fun _ w' hr=>Z12o w' p u v (hr.at_ 3 rfl) (hr.at_ 4 rfl),?_⟩;simp only[Tree.goal,X.P,X.ev,SV.ev,CV.ev,Sc.ev,qz,QA,QB,QC,QD,QE,QF,QG,QH,QI,QJ,QK,QL,QM,Nat.reduceAdd];refine⟨fun h3=>⟨fun h4 w' hr=>⟨?_,hr.mod⟩,fun h4=>?_⟩,fun h3=>?_⟩;(· rw[if_neg (by assumption),if_pos ⟨h3,h4⟩]);(· rw[if_neg (by assumption),if_neg (fun hh=>h4 hh.2)];refine⟨[.i (Z3f p)],rfl,fun _ w' hr=>Zcj w' p u v (hr.at_ 3 rfl) (hr.at_ 4 rfl) hs,?_⟩;simp only[Tree.goal,X.P,X.ev,SV.ev,CV.ev,Sc.ev,qz,QA,QB,QC,QD,QE,QF,QG,QH,QI,QJ,QK,QL,QM,Nat.reduceAdd];exact fun w' hr=>⟨by trivial,hr.mod⟩);(· rw[if_neg (by assumption),if_neg (fun hh=>h3 hh.1)];refine⟨[.i (Z3f p)],rfl,fun _ w' hr=>Zcj w' p u v (hr.at_ 3 rfl) (hr.at_ 4 rfl) hs,?_⟩;simp only[Tree.goal,X.P,X.ev,SV.ev,CV.ev,Sc.ev,qz,QA,QB,QC,QD,QE,QF,QG,QH,QI,QJ,QK,QL,QM,Nat.reduceAdd];exact fun w' hr=>⟨by trivial,hr.mod⟩)
end
end Go.Proofs.YtkhakgbnfapifaaGreatDoor
namespace Go.Proofs.YtkhakgbnfapifaaGreatDoor
open Go.Sx Go.RowKit
section
variable {P:Program} {w:World}
end
end Go.Proofs.YtkhakgbnfapifaaGreatDoor
namespace Go.Proofs.YtkhakgbnfapifaaGreatDoor
open Go.Sx
def byW (l:List UInt8):List (List Value):=l.map fun b=>[Value.int .u8 (b.toNat:Int)]
def okp (p:Value) (b:Nat):Prop:=p=.pointer none\/p=.pointer (some ⟨b,0,none⟩)
structure wrS (w:World) (b:Nat) (p q:Value) (l:List UInt8):Prop where
 cells:w.heap[b]?=some (.cells [Sx.sc1 p,Sx.sc1 q].toArray 262 (0,0))
 ok:okp p b
 own:owns w q 5 [.int .u8] (byW l)
def fpW (b:Nat) (q:Value):List Nat:=[b]++(q.ownBlock.toList++[])
def Z10n (w w':World) (b:Nat) (q:Value) (l:List UInt8):Prop :=
 ∃p' q',wrS w' b p' q' l/\Mod (fpW b q) w w'/\∀k,Z2 q' k->w.heap.size<=k\/k∈q.ownBlock.toList++[]
structure ByteP (p:Pkt):Prop where
 kind:0<=p.kind/\p.kind<=15
 qos:0<=p.qos/\p.qos<=3
 id:0<=p.id/\p.id<=65535
 keep:0<=p.keep/\p.keep<=65535
 code:0<=p.code/\p.code<=65535
 asks:∀a∈p.asks,0<=a.2/\a.2<=65535
 codes:∀c∈p.codes,0<=c/\c<=65535
 small:SmallP p
 body:(Z14n p).length<268435456
section
variable (w:World) (b:Nat) (p:Pkt) (u v:Value)
end
end Go.Proofs.YtkhakgbnfapifaaGreatDoor
namespace Go.Proofs.YtkhakgbnfapifaaGreatDoor
open Go.Sx
def pkOf (p:Pk):Pkt:={ pD_Q 3 with dup:=p.1,qos:=p.2.1,id:=p.2.2.1,topic:=p.2.2.2.1,payload:=p.2.2.2.2 }
structure Snt where
 client:List UInt8
 pk:Pkt
 peer:Int
 msg:Msg
abbrev toC (c:List UInt8) (p:Pkt):Snt:=⟨c,p,0,mNil⟩
abbrev toP (n:Int) (m:Msg):Snt:=⟨[],pD_Q 0,n,m⟩
structure Tel where
 kept:List Kp
 wants:List Wt
 sess:List Ses
 wat:List Wat
 next:Int
 out:List Snt
def idxS (l:List Ses) (c:List UInt8):Nat:=(l.filter fun s=>Zd s.cl c).length
def hasS (l:List Ses) (c:List UInt8):Bool:=decide (idxS l c<l.length/\(l.getD (idxS l c) s0).cl=c)
def Z5n (l:List Ses):Prop:=l.Pairwise fun a b=>Zd a.cl b.cl=true
def nx_Z (n:Int):Int:=(n+1) % 65536
def Z23 (n p:List UInt8) (q:Int) (t:Tel) (r:Rd):Tel :=
 { t with sess:=t.sess.set (idxS t.sess r.1) (Z2t (t.sess.getD (idxS t.sess r.1) s0) n p (min q r.2)).1,out:=t.out++(Z2t (t.sess.getD (idxS t.sess r.1) s0) n p (min q r.2)).2.map fun k=>toC r.1 (pkOf k) }
def putM (m:Msg) (n:Int):Msg:={ m with opts:=Z4f m.opts 6 [Z1l n] }
def Z77 (p:List UInt8) (t:Tel) (w:Wat):Tel:={ t with next:=nx_Z t.next,out:=t.out++[toP w.1 (putM ⟨1,69,t.next,w.2.1,[],p⟩ w.2.2.2)] }
def Z6i (n p:List UInt8) (q:Int) (t:Tel):Tel:=(rdOf n t.wants).foldl (Z23 n p q) t
def Za3 (n p:List UInt8) (q:Int) (t:Tel):Tel:=(Z4z n (Z6i n p q t).wat).foldl (Z77 p) { Z6i n p q t with wat:=Z2y n (Z6i n p q t).wat }
def Zb0 (t:Tel) (w:Wat):Tel:={ t with next:=nx_Z t.next,out:=t.out++[toP w.1 ⟨1,132,t.next,w.2.1,[],[]⟩] }
def ofT (n:List UInt8) (w:Wat):Bool:=decide (w.2.2.1=n)
def Z1i (n p:List UInt8) (t:Tel):Tel×Bool :=
 if ¬(rawK t.kept n p).2=0 then (t,false)
 else if ¬p=[] then ({ t with kept:=(rawK t.kept n p).1 },true)
 else ({ (t.wat.filter (ofT n)).foldl Zb0 { t with kept:=(rawK t.kept n p).1 } with wat:=t.wat.filter fun w=>!ofT n w },true)
def Zmn (c:List UInt8) (t:Tel):Tel:={ t with wants:=t.wants.filter fun w=>decide (¬w.1=c) }
def Zbz (c:List UInt8) (t:Tel):Tel :=
 if hasS t.sess c=true then
  if (goR (t.sess.getD (idxS t.sess c) s0)).clean=true then Zmn c { t with sess:=t.sess.take (idxS t.sess c)++t.sess.drop (idxS t.sess c+1) }
  else { t with sess:=t.sess.set (idxS t.sess c) (goR (t.sess.getD (idxS t.sess c) s0)) }
 else t
def insS (l:List Ses) (c:List UInt8):List Ses:=if hasS l c=true then l else l.take (idxS l c)++[⟨[],false,true,[],[],0⟩]++l.drop (idxS l c)
def Zc0 (l:List Ses) (c:List UInt8) (clean:Bool):Bool:=!((insS l c).getD (idxS l c) s0).clean && !clean
def Zdz (l:List Ses) (c:List UInt8) (clean:Bool):Ses:={ (if Zc0 l c clean=true then (insS l c).getD (idxS l c) s0 else ⟨c,false,false,[],[],1⟩) with clean:=clean }
def Z7k (c:List UInt8) (p:Pkt) (t:Tel):Tel :=
 if ¬p.client=c then t
 else if ¬hasS t.sess c=true/\t.sess.length=6 then { t with out:=t.out++[toC c { pD_Q 2 with code:=3 }] }
 else { t with
  wants:=if Zc0 t.sess c p.clean=true then t.wants else t.wants.filter fun w=>decide (¬w.1=c)
  sess:=(insS t.sess c).set (idxS t.sess c) (Zkc (Zdz t.sess c p.clean)).1
  out:=t.out++[toC c { pD_Q 2 with session:=Zc0 t.sess c p.clean }]++(Zkc (Zdz t.sess c p.clean)).2.map fun k=>toC c (pkOf k) }
def Zck (c:List UInt8) (p:Pkt) (t:Tel):Tel :=
 let t1:Tel:=if p.qos=1 then { t with out:=t.out++[toC c { pD_Q 4 with id:=p.id }] } else t
 Za3 p.topic p.payload p.qos (if p.retain=true then (Z1i p.topic p.payload t1).1 else t1)
def Z52 (c:List UInt8) (x:List Wt×List Int) (a:Ak):List Wt×List Int:=if (rawW x.1 (c,a.1,a.2)).2=0 then ((rawW x.1 (c,a.1,a.2)).1,x.2++[a.2]) else (x.1,x.2++[128])
def Zkn (c:List UInt8) (ws:List Wt) (l:List Ak):List Wt×List Int:=l.foldl (Z52 c) (ws,[])
def Zos (c:List UInt8) (kept:List Kp) (a:Ak) (q:Int):List Snt:=if q=128 then [] else (kept.filter (forF a.1)).map fun k=>toC c { pD_Q 3 with retain:=true,topic:=k.1,payload:=k.2.1 }
def Z5o (c:List UInt8) (kept:List Kp):List Ak->List Int->List Snt
 | a::l,q::m=>Zos c kept a q++Z5o c kept l m
 | _,_=>[]
def Z7l (c:List UInt8) (p:Pkt) (t:Tel):Tel :=
 { t with wants:=(Zkn c t.wants p.asks).1,out:=t.out++[toC c { pD_Q 9 with id:=p.id,codes:=(Zkn c t.wants p.asks).2 }]++Z5o c t.kept p.asks (Zkn c t.wants p.asks).2 }
def Z53 (c:List UInt8) (p:Pkt) (t:Tel):Tel :=
 { t with wants:=t.wants.filter fun w=>!(decide (w.1=c) && p.asks.any fun a=>decide (a.1=w.2.1)),out:=t.out++[toC c { pD_Q 11 with id:=p.id }] }
def Z10o (c:List UInt8) (p:Pkt) (t:Tel):Tel :=
 { t with sess:=t.sess.set (idxS t.sess c) (Z6q (t.sess.getD (idxS t.sess c) s0) p.id).1,out:=t.out++(Z6q (t.sess.getD (idxS t.sess c) s0) p.id).2.map fun k=>toC c (pkOf k) }
def Z4h (c:List UInt8) (p:Pkt) (t:Tel):Tel :=
 if ¬p.kind=1/\(¬hasS t.sess c=true\/¬(t.sess.getD (idxS t.sess c) s0).on=true) then t
 else if p.kind=1 then Z7k c p t
 else if p.kind=3 then Zck c p t
 else if p.kind=4 then Z10o c p t
 else if p.kind=8 then Z7l c p t
 else if p.kind=10 then Z53 c p t
 else if p.kind=12 then { t with out:=t.out++[toC c (pD_Q 13)] }
 else if p.kind=14 then Zbz c t
 else t
def getB (n:Int) (m a:Msg) (name:List UInt8) (t:Tel):Tel×Msg :=
 if ¬hasK t.kept name=true then (t,{ a with code:=132 })
 else
  let a1:Msg:={ a with code:=69,pay:=(t.kept.getD (idx t.kept name) kD).2.1 }
  if (Z4g 6 m.opts).2=0/\(Z4g 6 m.opts).1=0 then
   if (Z50 t.wat (n,m.tok,name,1)).2=0 then ({ t with wat:=(Z50 t.wat (n,m.tok,name,1)).1 },putM a1 1) else (t,a1)
  else if (Z4g 6 m.opts).2=0/\(Z4g 6 m.opts).1=1 then ({ t with wat:=filt n m.tok t.wat },a1)
  else (t,a1)
def Z8k (m:Msg) (next:Int):Msg:=if m.kind=1 then ⟨1,133,next,m.tok,[],[]⟩ else ⟨2,133,m.id,m.tok,[],[]⟩
def doB (n:Int) (m a:Msg) (t:Tel):Tel×Msg :=
 if ¬(Z1p m.opts).2=0 then (t,{ a with code:=128 })
 else if m.code=1 then getB n m a (Z1p m.opts).1 t
 else if m.code=3 then
  if ¬m.pay=[]/\(Z1i (Z1p m.opts).1 m.pay t).2=true then (Za3 (Z1p m.opts).1 m.pay 1 (Z1i (Z1p m.opts).1 m.pay t).1,{ a with code:=68 }) else (t,{ a with code:=128 })
 else if m.code=4 then ((Z1i (Z1p m.opts).1 [] t).1,{ a with code:=66 })
 else (t,a)
def Z3u (n:Int) (m:Msg) (t:Tel):Tel :=
 let a:=Z8k m t.next
 let x:=doB n m a { t with next:=if m.kind=1 then nx_Z t.next else t.next,out:=t.out++[toP n a] }
 { x.1 with out:=x.1.out.set t.out.length (toP n x.2) }
def Zl (n:Int) (m:Msg) (t:Tel):Tel :=
 if m.code=0/\m.kind=0 then { t with out:=t.out++[toP n ⟨3,0,m.id,[],[],[]⟩] }
 else if ¬m.code=0/\m.kind<=1 then Z3u n m t
 else t
def Zb1:Option (List UInt8)->List Ses->Int
 | _,[]=>0
 | u,s::l=>if ¬chkS s=0 then chkS s else if (match u with|none=>true|some c=>Zd c s.cl)=true then Zb1 (some s.cl) l else 4
def Z4q (l:List Ses):Int:=if 6<(l.length:Int) then 2 else Zb1 none l
def Z10 (t:Tel):Bool:=t.wants.any (fun w=>!hasS t.sess w.1) || t.wat.any (fun w=>!hasK t.kept w.2.2.1)
def chkB (t:Tel):Int :=
 if ¬chkK t.kept=0 then chkK t.kept
 else if ¬Zf t.wants=0 then Zf t.wants
 else if ¬Z4q t.sess=0 then Z4q t.sess
 else if ¬Zw t.wat=0 then Zw t.wat
 else if Z10 t=true then 4
 else if t.next<0\/65535<t.next then 3 else 0
end Go.Proofs.YtkhakgbnfapifaaGreatDoor
namespace Go.Proofs.YtkhakgbnfapifaaGreatDoor
open Go Go.Sx
def rdsZ (l:List (Value×List Kd×List (List Value))):Asrt where
 holds w:=∀t∈l,reads w t.1 t.2.1 t.2.2
 fp k:=∃t∈l,t.2.2.flatten≠[]/\Z2 t.1 k
 stable:=fun w w' h hh t ht=>(hh t ht).stable fun k hk=>h k ⟨t,ht,hk⟩
 bound:=fun w hh k ⟨t,ht,hk⟩=>Ent.bound (ρ:=[.v t.1,.r t.2.2]) (e:=.rd 0 t.2.1 (.var 1)) (hh t ht) hk
abbrev SesX:=Ses×Value×Value
abbrev sxD:SesX:=(s0,.slice none 0 0,.slice none 0 0)
def Zh (t:SesX):List Value:=[.string ⟨t.1.cl.toArray⟩,.bool t.1.on,.bool t.1.clean,sc1 t.2.1,sc1 t.2.2,.int .i64 t.1.next]
abbrev kSx:List Kd:=[.str,.bool,.bool,.oth,.oth,.int .i64]
def sesT (t:SesX):List (Value×List Kd×List (List Value)):=[(t.2.1,kF,t.1.fl.map encF),(t.2.2,kF,t.1.qu.map encF)]
abbrev SntX:=Snt×Value×Value×Value
def Z1q (t:SntX):List Value:=[.string ⟨t.1.client.toArray⟩,
 .int .i64 t.1.pk.kind,.bool t.1.pk.dup,.bool t.1.pk.retain,.bool t.1.pk.clean,.bool t.1.pk.session,.int .i64 t.1.pk.qos,.int .i64 t.1.pk.id,.int .i64 t.1.pk.keep,.int .i64 t.1.pk.code,.string ⟨t.1.pk.client.toArray⟩,.string ⟨t.1.pk.topic.toArray⟩,.string ⟨t.1.pk.payload.toArray⟩,sc1 t.2.1,sc1 t.2.2.1,
 .int .i64 t.1.peer,.int .i64 t.1.msg.kind,.int .i64 t.1.msg.code,.int .i64 t.1.msg.id,.string ⟨t.1.msg.tok.toArray⟩,sc1 t.2.2.2,.string ⟨t.1.msg.pay.toArray⟩]
abbrev kSn:List Kd:=[.str,.int .i64,.bool,.bool,.bool,.bool,.int .i64,.int .i64,.int .i64,.int .i64,.str,.str,.str,.oth,.oth,.int .i64,.int .i64,.int .i64,.int .i64,.str,.oth,.str]
def sntT (t:SntX):List (Value×List Kd×List (List Value)):=[(t.2.1,[.str,.int .i64],t.1.pk.asks.map encA),(t.2.2.1,[.int .i64],t.1.pk.codes.map Z1h),(t.2.2.2,[.int .i64,.str],t.1.msg.opts.map encO)]
def nest (l:List SesX) (o:List SntX):List (Value×List Kd×List (List Value)):=l.flatMap sesT++o.flatMap sntT
def Z6 (l:List SesX) (o:List SntX):Asrt:=rdsZ (nest l o)
theorem Zq {l:List SesX} {o:List SntX} {w:World} (h:(Z6 l o).holds w) {t:SesX} (ht:t∈l):Zn w t.2.1 t.1.fl/\Zn w t.2.2 t.1.qu :=
 ⟨h (t.2.1,kF,t.1.fl.map encF) (List.mem_append_left _ (List.mem_flatMap.2 ⟨t,ht,by simp[sesT]⟩)),h (t.2.2,kF,t.1.qu.map encF) (List.mem_append_left _ (List.mem_flatMap.2 ⟨t,ht,by simp[sesT]⟩))⟩
theorem Zmo {l:List SesX} {o:List SntX} {w:World} (h:(Z6 l o).holds w) {t:SntX} (ht:t∈o):Z82 w t.2.1 t.1.pk.asks/\Z72 w t.2.2.1 t.1.pk.codes/\Z22 w t.2.2.2 t.1.msg.opts :=
 ⟨h (t.2.1,[.str,.int .i64],t.1.pk.asks.map encA) (List.mem_append_right _ (List.mem_flatMap.2 ⟨t,ht,by simp[sntT]⟩)),h (t.2.2.1,[.int .i64],t.1.pk.codes.map Z1h) (List.mem_append_right _ (List.mem_flatMap.2 ⟨t,ht,by simp[sntT]⟩)),h (t.2.2.2,[.int .i64,.str],t.1.msg.opts.map encO) (List.mem_append_right _ (List.mem_flatMap.2 ⟨t,ht,by simp[sntT]⟩))⟩
theorem Z1j {l l':List SesX} {o o':List SntX} {w:World} (h1:∀t∈l',t∈l\/(Zn w t.2.1 t.1.fl/\Zn w t.2.2 t.1.qu)) (h2:∀t∈o',t∈o\/(Z82 w t.2.1 t.1.pk.asks/\Z72 w t.2.2.1 t.1.pk.codes/\Z22 w t.2.2.2 t.1.msg.opts)) (h:(Z6 l o).holds w):(Z6 l' o').holds w:=by
 intro x hx;rcases qy13.1 hx with hx|hx
 ·obtain⟨t,ht,hx⟩:=List.mem_flatMap.1 hx;have hr:Zn w t.2.1 t.1.fl/\Zn w t.2.2 t.1.qu:=by
   rcases h1 t ht with h3|h3
   ·exact Zq h h3
   ·exact h3
  simp only[sesT,List.mem_cons,List.not_mem_nil,or_false]at hx;rcases hx with rfl|rfl
  ·exact hr.1
  ·exact hr.2
 ·obtain⟨t,ht,hx⟩:=List.mem_flatMap.1 hx;have hr:Z82 w t.2.1 t.1.pk.asks/\Z72 w t.2.2.1 t.1.pk.codes/\Z22 w t.2.2.2 t.1.msg.opts:=by
   rcases h2 t ht with h3|h3
   ·exact Zmo h h3
   ·exact h3
  simp only[sntT,List.mem_cons,List.not_mem_nil,or_false]at hx;rcases hx with rfl|rfl|rfl
  ·exact hr.1
  ·exact hr.2.1
  ·exact hr.2.2
def sesF (t:SesX) (k:Nat):Prop:=((t.1.fl.map encF).flatten≠[]/\Z2 t.2.1 k)\/((t.1.qu.map encF).flatten≠[]/\Z2 t.2.2 k)
def sntF (t:SntX) (k:Nat):Prop:=((t.1.pk.asks.map encA).flatten≠[]/\Z2 t.2.1 k)\/((t.1.pk.codes.map Z1h).flatten≠[]/\Z2 t.2.2.1 k)\/((t.1.msg.opts.map encO).flatten≠[]/\Z2 t.2.2.2 k)
theorem Zi {l:List SesX} {o:List SntX} {k:Nat}:(Z6 l o).fp k↔(∃t∈l,sesF t k)\/(∃t∈o,sntF t k):=by
 constructor
 ·rintro⟨x,hx,hk⟩;rcases qy13.1 hx with hx|hx
  ·obtain⟨t,ht,hx⟩:=List.mem_flatMap.1 hx;simp only[sesT,List.mem_cons,List.not_mem_nil,or_false]at hx;rcases hx with rfl|rfl
   ·exact .inl ⟨t,ht,.inl hk⟩
   ·exact .inl ⟨t,ht,.inr hk⟩
  ·obtain⟨t,ht,hx⟩:=List.mem_flatMap.1 hx;simp only[sntT,List.mem_cons,List.not_mem_nil,or_false]at hx;rcases hx with rfl|rfl|rfl
   ·exact .inr ⟨t,ht,.inl hk⟩
   ·exact .inr ⟨t,ht,.inr (.inl hk)⟩
   ·exact .inr ⟨t,ht,.inr (.inr hk)⟩
 ·rintro(⟨t,ht,h|h⟩|⟨t,ht,h|h|h⟩)
  ·exact⟨_,List.mem_append_left _ (List.mem_flatMap.2 ⟨t,ht,qy8 ..⟩),h⟩
  ·exact⟨_,List.mem_append_left _ (List.mem_flatMap.2 ⟨t,ht,qy10 _ (qy8 ..)⟩),h⟩
  ·exact⟨_,List.mem_append_right _ (List.mem_flatMap.2 ⟨t,ht,qy8 ..⟩),h⟩
  ·exact⟨_,List.mem_append_right _ (List.mem_flatMap.2 ⟨t,ht,qy10 _ (qy8 ..)⟩),h⟩
  ·exact⟨_,List.mem_append_right _ (List.mem_flatMap.2 ⟨t,ht,qy10 _ (qy10 _ (qy8 ..))⟩),h⟩
theorem gSx0 (l:List SesX) (i:Nat):Value.gS (((l.map Zh).getD i []).getD 0 undef)=(l.getD i sxD).1.cl:=by simp only[qy1,List.getElem?_map];cases l[i]?<;>simp[Zh,Value.gS,undef,s0]
theorem Z7x {l:List SesX} {i:Nat} (h:i<l.length):(l.map Zh).getD i []=Zh (l.getD i sxD):=by rw[qy1,qy1,List.getElem?_map,qy7 h];rfl
theorem Z5p {l:List SesX} {i:Nat} (h:i<l.length):l.getD i sxD∈l:=by rw[qy1,qy7 h];exact List.getElem_mem h
theorem Zj2 (l:List SesX) (i:Nat):(l.map (·.1)).getD i s0=(l.getD i sxD).1:=by rw[qy1,qy1,List.getElem?_map];cases l[i]?<;>rfl
end Go.Proofs.YtkhakgbnfapifaaGreatDoor
