/-
  Texts of mine, one behind the other. By an AI agent.
-/
import Derived.Test.YtkhakgbnfapifaaGreatDoorW12
import Derived.Test.YtkhakgbnfapifaaGreatDoorW09
import Derived.Test.YtkhakgbnfapifaaGreatDoorW05
import Derived.Test.YtkhakgbnfapifaaGreatDoorW10
import Derived.Test.YtkhakgbnfapifaaGreatDoorW11
import Derived.Test.YtkhakgbnfapifaaGreatDoorW06
import Derived.Shelf.Strings.Search3
import Derived.Shelf.Strings.Trim
import Derived.Shelf.Strings.OnBuilder
import Derived.Test.YtkhakgbnfapifaaGreatDoorProg
import Derived.Shelf.RegionOpenPlain
import Derived.Lib.Strings
import Derived.Lib.Slices
import Derived.Lib.Walk
import Derived.Lib.Builder
import Derived.Lib.AppendStr
import Derived.Lib.UnsafeStr
import Derived.WalkKit
set_option linter.unusedSimpArgs false
set_option linter.unusedVariables false
set_option maxHeartbeats 20000000
namespace Go.Proofs.YtkhakgbnfapifaaGreatDoor
open Go.Sx
abbrev Opt:=Int×List UInt8
def encO (o:Opt):List Value:=[.int .i64 o.1,.string ⟨o.2.toArray⟩]
abbrev oD:Opt:=(0,[])
theorem Z22 (os:List Opt) (i:Nat):Value.gI (((os.map encO).getD i []).getD 0 undef)=(os.getD i oD).1:=by simp only[qy1,List.getElem?_map];cases os[i]?<;>rfl
theorem Z23 (os:List Opt) (i:Nat):Value.gS (((os.map encO).getD i []).getD 1 undef)=(os.getD i oD).2:=by simp only[qy1,List.getElem?_map];cases os[i]?<;>simp[encO,Value.gS,undef]
theorem Z14n (os:List Opt) (i:Nat) (h:i<os.length):os.drop i=os.getD i oD::os.drop (i+1):=by rw[List.drop_eq_getElem_cons h,qy1,qy7 h];rfl
structure Msg where
 kind:Int
 code:Int
 id:Int
 tok:List UInt8
 opts:List Opt
 pay:List UInt8
abbrev mNil:Msg:=⟨0,0,0,[],[],[]⟩
def mV (m:Msg) (v:Value):Value:=.agg #[.int .i64 m.kind,.int .i64 m.code,.int .i64 m.id,.string ⟨m.tok.toArray⟩,v,.string ⟨m.pay.toArray⟩]
abbrev Z24 (w:World) (v:Value) (os:List Opt):Prop:=reads w v [.int .i64,.str] (os.map encO)
def optE:Int->List Opt->Int
 | _,[]=>0
 | was,o::l=>if 0<=o.1/\o.1<=65535 then (if o.1<was then 4 else if 60<(o.2.length:Int) then 2 else optE o.1 l) else 3
def chk (m:Msg):Int :=
 if 0<=m.kind/\m.kind<=3 then
  if 0<=m.code/\m.code<=255/\0<=m.id/\m.id<=65535 then
   if 8<(m.tok.length:Int)\/12<(m.opts.length:Int)\/200<(m.pay.length:Int) then 2
   else if optE 0 m.opts≠0 then optE 0 m.opts
   else if m.code=0/\(m.tok≠[]\/m.pay≠[]\/m.opts≠[]) then 1 else 0
  else 3
 else 7
theorem Z106 {m:Msg} (h:¬(0<=m.kind/\m.kind<=3)):chk m=7:=if_neg h
theorem Zvf {m:Msg} (h:0<=m.kind/\m.kind<=3) (h1:¬(0<=m.code/\m.code<=255/\0<=m.id/\m.id<=65535)):chk m=3:=by rw[chk,if_pos h,if_neg h1]
theorem Z107 {m:Msg} (h:0<=m.kind/\m.kind<=3) (h1:0<=m.code/\m.code<=255/\0<=m.id/\m.id<=65535) (h2:8<(m.tok.length:Int)\/12<(m.opts.length:Int)\/200<(m.pay.length:Int)):chk m=2:=by rw[chk,if_pos h,if_pos h1,if_pos h2]
theorem Z108 {m:Msg} (h:0<=m.kind/\m.kind<=3) (h1:0<=m.code/\m.code<=255/\0<=m.id/\m.id<=65535) (h2:¬(8<(m.tok.length:Int)\/12<(m.opts.length:Int)\/200<(m.pay.length:Int))) : chk m=if optE 0 m.opts≠0 then optE 0 m.opts else if m.code=0/\(m.tok≠[]\/m.pay≠[]\/m.opts≠[]) then 1 else 0:=by rw[chk,if_pos h,if_pos h1,if_neg h2]
theorem Z79 {m:Msg}:chk m=0↔(0<=m.kind/\m.kind<=3)/\(0<=m.code/\m.code<=255/\0<=m.id/\m.id<=65535)/\(m.tok.length<=8/\m.opts.length<=12/\m.pay.length<=200)/\optE 0 m.opts=0/\(m.code=0->m.tok=[]/\m.pay=[]/\m.opts=[]):=by
 unfold chk;constructor
 ·intro h;split at h
  ·split at h
   ·split at h
    ·exact absurd h (by decide)
    ·split at h
     ·contradiction
     ·split at h
      ·exact absurd h (by decide)
      ·rename_i h1 h2 h3 h4 h5;exact⟨h1,h2,by omega,qy9.1 h4,fun h6=>⟨Classical.byContradiction fun h7=>h5 ⟨h6,.inl h7⟩,Classical.byContradiction fun h7=>h5 ⟨h6,.inr (.inl h7)⟩,Classical.byContradiction fun h7=>h5 ⟨h6,.inr (.inr h7)⟩⟩⟩
   ·exact absurd h (by decide)
  ·exact absurd h (by decide)
 ·rintro⟨h1,h2,h3,h4,h5⟩;rw[if_pos h1,if_pos h2,if_neg (by omega),if_neg (fun h=>h h4),if_neg];rintro⟨h6,h7⟩;obtain⟨a,b,c⟩:=h5 h6;rcases h7 with h|h|h
  ·exact h a
  ·exact h b
  ·exact h c
theorem Zcu (w:World) (n a b:Int):Calls Tryz.prog 166 #[.int .i64 n,.int .i64 a,.int .i64 b] w fun e w'=>e=.returned (.bool (decide (a<=n/\n<=b)))/\Mod [] w w':=by refine Z1 (Z7 (ρ:=[.i n,.i a,.i b]) sxE_ok Tryz.func166 Z8n rfl rfl rfl ?_) rfl;simp only[Tree.goal,X.ev,SV.ev,CV.ev,Sc.ev,qz,QA,QB];exact fun w' hr=>⟨by simp,hr.mod⟩
theorem Zvg (w:World) (v:Value) (os:List Opt) (hv:Z24 w v os) (hl:os.length<1099511627776):Calls Tryz.prog 167 #[sc1 v] w fun e w'=>e=.returned (.int .i64 (optE 0 os))/\Mod [] w w':=by
 refine Z1 (Z4 (ρ:=[.v v,.r (os.map encO)]) sxE_ok Tryz.func167 Z81 rfl rfl (Rel.start2 (by simp[Ent.holds,Ent.wr,hv,X.ev])) rfl rfl ?_) rfl;simp only[Tree.goal,X.P,X.ev,SV.ev,CV.ev,Sc.ev,qz,QA,QC,QD,QH,QJ,QK,QL,QM,Nat.reduceAdd,qy3];refine⟨fun vs=>∃(i:Nat) (x:V) (was:Int),vs=[x,.i was,.i i]/\i<=os.length/\optE was (os.drop i)=optE 0 os,fun vs=>(os.length - (vs.getD 2 (.i 0)).toI).toNat,⟨0,_,0,rfl,by omega,rfl⟩,?_⟩;rintro _ - ⟨i,x,was,rfl,hi,hg⟩;simp only[qz,QA,QL,QM,qy4,Z22,Z23];refine⟨fun h1=>?_,fun h1 w' hr=>⟨?_,hr.mod⟩⟩
 ·rw[Z14n os i (by omega)]at hg;generalize os.getD i oD=o at hg ⊢
  (repeat refine⟨by omega,?_⟩)
  intro b;refine⟨[.b (decide (0<=o.1/\o.1<=65535))],rfl,fun _ w' _=>Zcu w' _ _ _,?_⟩;simp only[qz,QB,decide_eq_true_eq];simp only[optE]at hg;refine⟨fun h2 w' hr=>⟨by rw[<- hg,if_neg h2],hr.mod⟩,fun h2=>?_⟩;rw[if_pos (qy9.1 h2)]at hg;refine⟨fun h3 w' hr=>⟨by rw[<- hg,if_pos h3],hr.mod⟩,fun h3=>?_⟩;rw[if_neg h3]at hg;refine⟨fun h4 w' hr=>⟨by rw[<- hg,if_pos h4],hr.mod⟩,fun h4=>?_⟩;rw[if_neg h4]at hg;exact⟨by omega,by omega,⟨i+1,_,o.1,rfl,by omega,hg⟩,by omega⟩
 ·have:i=os.length:=by omega
  subst this;rw[List.drop_length]at hg;rw[<- hg];rfl
theorem Zbh (w:World) (m:Msg) (v:Value) (hv:Z24 w v m.opts) (hl:m.opts.length<1099511627776) (ht:m.tok.length<1099511627776) (hp:m.pay.length<1099511627776) : Calls Tryz.prog 85 #[mV m (sc1 v)] w fun e w'=>e=.returned (.int .i64 (chk m))/\Mod [] w w':=by
 refine Z1 (Z4 (ρ:=[.i m.kind,.i m.code,.i m.id,.s m.tok,.v v,.r (m.opts.map encO),.s m.pay]) sxE_ok Tryz.func85 Z9u rfl rfl (Rel.start2 (by simp[Ent.holds,Ent.wr,hv,X.ev])) rfl rfl ?_) rfl;simp only[Tree.goal,X.P,X.ev,SV.ev,CV.ev,Sc.ev,qz,QA,QC,QD,QE,QL,QM,qy3];intro b;refine⟨[.b (decide (0<=m.kind/\m.kind<=3))],rfl,fun _ w' _=>Zcu w' _ _ _,?_⟩;simp only[qz,QB,QL,QM,decide_eq_true_eq];refine⟨fun h w' hr=>⟨by rw[Z106 h],hr.mod⟩,fun h=>?_⟩;replace h:=qy9.1 h;refine⟨[.b (decide (0<=m.code/\m.code<=255))],rfl,fun _ w' _=>Zcu w' _ _ _,?_⟩;simp only[qz,QB,QL,QM,decide_eq_true_eq];refine⟨[.b (decide (0<=m.id/\m.id<=65535))],rfl,fun _ w' _=>Zcu w' _ _ _,?_⟩;simp only[qz,QB,QL,QM,decide_eq_true_eq];refine⟨fun h1 w' hr=>⟨by rw[Zvf h (by omega)],hr.mod⟩,fun h1=>?_⟩;refine⟨fun h2 w' hr=>⟨by rw[Z107 h (by omega) (by omega)],hr.mod⟩,fun h2=>?_⟩;rw[Z108 h (by omega) (by omega)];refine⟨[.i (optE 0 m.opts)],rfl,fun _ w' hr=>Zvg w' v m.opts (hr.at_ 1 rfl) hl,?_⟩;simp only[qz,QA];refine⟨fun h3 w' hr=>⟨by rw[if_pos h3],hr.mod⟩,fun h3=>?_⟩;rw[if_neg h3];refine⟨by omega,fun h4 w' hr=>⟨?_,hr.mod⟩,fun h4 w' hr=>⟨?_,hr.mod⟩⟩
 ·rw[if_pos];rcases h4 with ⟨h5,h6⟩|⟨h5,h6⟩
  ·refine⟨h5,?_⟩;simp only[List.append_eq_nil_iff]at h6;by_cases h7:m.tok=[]
   ·exact .inr (.inl fun h8=>h6 ⟨h7,h8⟩)
   ·exact .inl h7
  ·exact⟨h5,.inr (.inr (by intro h8;rw[h8]at h6;simp at h6))⟩
 ·rw[if_neg];rintro⟨h5,h6⟩;apply h4;rcases h6 with h6|h6|h6
  ·exact .inl ⟨h5,fun h=>h6 (List.append_eq_nil_iff.1 h).1⟩
  ·exact .inl ⟨h5,fun h=>h6 (List.append_eq_nil_iff.1 h).2⟩
  ·exact .inr ⟨h5,by have:=List.length_pos_iff.2 h6;omega⟩
def Z5q:List (List UInt8)->List UInt8
 | []=>[]
 | [x]=>x
 | x::y::xs=>x++47::Z5q (y::xs)
theorem Z8u {s:List UInt8} {f:Bool}:chkT s f=0↔s≠[]/\(s.length<=60/\(lev s).length<=6)/\Z2w s=true/\badL f (lev s)=false:=by
 unfold chkT;by_cases h1:s=[]
 ·rw[if_pos h1];simp[h1]
 ·rw[if_neg h1];by_cases h2:60<(s.length:Int)\/6<((lev s).length:Int)
  ·rw[if_pos h2];refine⟨fun h=>absurd h (by decide),fun h=>by omega⟩
  ·rw[if_neg h2];by_cases h3:Z2w s=true
   ·rw[if_pos h3];cases h4:badL f (lev s)
    ·exact⟨fun _=>⟨h1,by omega,h3,rfl⟩,fun _=>rfl⟩
    ·exact⟨fun h=>absurd h (by decide),fun h=>absurd h.2.2.2 (by simp)⟩
   ·rw[if_neg h3];exact⟨fun h=>absurd h (by decide),fun h=>absurd h.2.2.1 h3⟩
def noN (n:Int) (os:List Opt):List Opt:=os.filter fun o=>decide (o.1≠n)
def upTo (n:Int) (os:List Opt):List Opt:=os.takeWhile fun o=>decide (o.1<=n)
def past (n:Int) (os:List Opt):List Opt:=os.dropWhile fun o=>decide (o.1<=n)
def Z109 (os:List Opt) (n:Int) (vs:List (List UInt8)):List Opt:=upTo n (noN n os)++vs.map (fun v=>(n,v))++past n (noN n os)
theorem Z17g {n:Int} {os:List Opt} (h:∀o∈os,o.1≠n):noN n os=os:=by rw[noN,List.filter_eq_self];simpa using h
def Zj (n:Int) (os:List Opt):List (List UInt8):=(os.filter fun o=>decide (o.1=n)).map (·.2)
theorem Zk5 {n:Int} {os:List Opt} (h:∀o∈os,o.1≠n):Zj n os=[]:=by rw[Zj,List.map_eq_nil_iff,List.filter_eq_nil_iff];simpa using h
theorem Zoh (n:Int) (a b:List Opt):Zj n (a++b)=Zj n a++Zj n b:=by simp[Zj]
theorem Zoi {n:Int}:∀{l:List Opt} {k:Nat},k<=l.length->(∀j,j<k->(l.getD j oD).1<=n)->(k<l.length->n<(l.getD k oD).1)->l.take k=upTo n l/\l.drop k=past n l
 | [],k,hk,_,_=>by simp[upTo,past]
 | o::l,0,_,_,h2=>by
  have h:=h2 (by simp);simp only[List.getD_cons_zero]at h;have:¬o.1<=n:=by omega
  simp[upTo,past,this]
 | o::l,k+1,hk,h1,h2=>by have h:=h1 0 (by omega);simp only[List.getD_cons_zero]at h;obtain⟨e1,e2⟩:=Zoi (n:=n) (l:=l) (k:=k) (by simpa using hk) (fun j hj=>by have:=h1 (j+1) (by omega);simpa using this) (fun hj=>by have:=h2 (by simpa using hj);simpa using this);simp only[upTo,past]at e1 e2 ⊢;simp[h,e1,e2]
def Zm8 (v:List UInt8):Int×Int:=if 3<(v.length:Int) then (0,1) else ((beN v 0:Nat),0)
def Z8v (n:Int) (os:List Opt):Int×Int:=match Zj n os with | []=>(0,5)|v::_=>Zm8 v
def Z2b (n:Int):List UInt8:=(numB 3 n).dropWhile fun c=>c == 0
def Z1p (os:List Opt):List UInt8×Int :=
 if Zj 11 os=[] then ([],5)
 else if chkT (Z5q (Zj 11 os)) false=0 then
  (if (Zj 11 os).any (fun v=>v.any fun c=>c == 47)=true then ([],1) else (Z5q (Zj 11 os),0))
 else ([],chkT (Z5q (Zj 11 os)) false)
end Go.Proofs.YtkhakgbnfapifaaGreatDoor
namespace Go.Proofs.YtkhakgbnfapifaaGreatDoor
open Go Go.Sx Go.Shelf Go.RowKit Go.Lib
set_option maxRecDepth 100000 in
theorem Zvh (w:World) (b:Option Addr) (n c i:Nat) (vb:Option Addr) (vc:Nat) (hi:i<=n) (hc:n<=c) (hb:b=none->c=0) : Calls Tryz.prog 192 #[.slice b n c,.int .i64 i,.slice vb 0 vc] w fun e w'=>e=.returned (.slice b n c)/\w'=w:=by
  go_enter Tryz.func192,Tryz.ntmps192
  go_wp2
  all_goals (go_ret;exact⟨rfl,rfl⟩)
set_option maxRecDepth 100000 in
theorem Z10a (w:World) (b:Option Addr) (n c:Nat) (vb:Option Addr) (m vc:Nat) (hm:0<m) (hc:n<=c) (hb:b=none->c=0) (v':Value) (w':World) (hrun:∀ty,(Builtin.append_ #[48,48] ty #[.slice b n c,.slice vb m vc]).run Tryz.prog w=.ok v' w') : Calls Tryz.prog 192 #[.slice b n c,.int .i64 n,.slice vb m vc] w fun e w1=>e=.returned v'/\w1=w':=by
  have hz1:¬((m:Int)=0):=by omega
  go_enter Tryz.func192,Tryz.ntmps192
  go_wp2_with (at_builtin;refine Lib.wpList_append_run _ rfl _ _ _ _ rfl _ _ rfl rfl _ _ (hrun _) ?_)
  all_goals (go_ret;exact⟨rfl,rfl⟩)
set_option maxRecDepth 100000 in
theorem Zr6 (w:World) (g n c i vb m vc:Nat) (cs vs:List Value) (cur vcur cur2:Array Value) (hi:i<n) (hm:0<m) (hroom:n+m<=c) (hc63:c<=9223372036854775807) (hvb:vb≠g) (hg:w.heap[g]?=some (.cells cur 127 (0,0))) (hcs:cur.size=c*2) (hv:w.heap[vb]?=some (.cells vcur 127 (0,0))) (hvl:m*2<=vcur.size) (e1:cs=(cur.toList.drop (i*2)).take ((n - i)*2)) (e2:vs=vcur.toList.take (m*2)) (h1c:∀v∈cs,v.oneCell'=true) (h1v:∀v∈vs,v.oneCell'=true) (e3:cur2.toList=cur.toList.take (i*2)++vs++cs++cur.toList.drop ((n+m)*2)) : Calls Tryz.prog 192 #[.slice (some ⟨g,0,none⟩) n c,.int .i64 i,.slice (some ⟨vb,0,none⟩) m vc] w fun e w'=>e=.returned (.slice (some ⟨g,0,none⟩) (n+m) c)/\w'=w.drew.setRow g cur2:=by
  have hz1:¬((m:Int)=0):=by omega
  have hz2:¬((i:Int)=(n:Int)):=by omega
  have hw1:IntKind.i64.wrap ((i:Int)+(m:Int))=(i:Int)+(m:Int):=by rw[IntKind.wrap_i64];omega
  have hw2:IntKind.i64.wrap ((n:Int)+(m:Int))=(n:Int)+(m:Int):=by rw[IntKind.wrap_i64];omega
  have hb1:(0:Int)<=(i:Int)+(m:Int):=by omega
  have hin:i<=n:=by omega
  have htn:((i:Int)+(m:Int)).toNat=i+m:=by omega
  have htn2:((n:Int)+(m:Int)).toNat=n+m:=by omega
  have hb2:¬(c=i+m):=by omega
  have hb3:(i:Int)<=(n:Int)+(m:Int):=by omega
  have hb4:¬(c=i):=by omega
  have hsz:(Tryz.prog.info? 127).map (·.size)=some 2:=by kernel_rfl
  have hso:∀w,(Go.sizeOf 127).run Tryz.prog w=.ok 2 w:=fun w=>by
    cases hq:Tryz.prog.info? 127 with
    | none=>rw[hq]at hsz;simp at hsz
    | some i=>rw[hq]at hsz;simp at hsz;simp[sizeOf,typeInfo,hq,hsz]
  have hu:=Tryz.underlying48;have hov:∀o lb cb,(callFunc 245 #[.slice (some ⟨vb,0,none⟩) m vc,.slice (some ⟨g,o,none⟩) lb cb]).run Tryz.prog w=.ok (.value (.bool false)) w:=fun o lb cb=>by
    rw[run_callFunc_extern Tryz.func245 (by kernel_rfl) (by kernel_rfl) (by kernel_rfl) (e:=Extern.SlicesOverlaps.overlaps #[48,48] #[4]) (by kernel_rfl),
      Lib.run_overlaps_apart w 48 4 127 hu 2 hso ⟨vb,0,none⟩ ⟨g,o,none⟩ m vc lb cb hvb 127 127 vcur.size cur.size (by simp[World.shape?,hv]) (by simp[World.shape?,hg]) (by omega) (by simp[World.frozen?,hv]) (by simp[World.frozen?,hv])]
    rfl
  have hcl:cs.length=(n - i)*2:=by rw[e1];simp;omega
  have hvl2:vs.length=m*2:=by rw[e2];simp;omega
  have hgd:w.drew.heap[g]?=some (.cells cur 127 (0,0)):=hg;have hcp1:∀ty dc sc,(Builtin.copy_ #[48,48] ty #[.slice (some ⟨g,(i+m)*2,none⟩) (n+m - (i+m)) dc,.slice (some ⟨g,i*2,none⟩) (n+m - i) sc]).run Tryz.prog w.drew=.ok (goInt ((n - i:Nat):Int)) (w.drew.setRow g (cur.toList.take ((i+m)*2)++cs++cur.toList.drop ((i+m)*2+cs.length)).toArray):=fun ty dc sc =>
    Ze (P:=Tryz.prog) w.drew 48 48 ty 127 2 g ((i+m)*2) (n+m - (i+m)) dc ⟨g,i*2,none⟩ (n+m - i) sc cur 127 cs (n - i) (by omega) hu hsz hgd hcl (fun j v hj=>by
      rw[e1,List.getElem?_take]at hj;split at hj
      . rw[Addr.add_lit];simp only[World.cell?,hgd];simpa using hj
      . cases hj) (by rw[hcl];omega) h1c
  obtain⟨cur1,hcur1⟩:∃cur1:Array Value,cur1=(cur.toList.take ((i+m)*2)++cs++cur.toList.drop ((i+m)*2+cs.length)).toArray:=⟨_,rfl⟩
  rw[<- hcur1]at hcp1;have hs1:cur1.size=cur.size:=by rw[hcur1];simp only[List.size_toArray,qy11,List.length_take,List.length_drop,Array.length_toList,hcl];omega
  have hcp2:∀(W:World),W.heap=(w.drew.setRow g cur1).heap->∀ty dc,(Builtin.copy_ #[48,48] ty #[.slice (some ⟨g,i*2,none⟩) (n+m - i) dc,.slice (some ⟨vb,0,none⟩) m vc]).run Tryz.prog W=.ok (goInt m) (W.setRow g cur2):=fun W hW ty dc=>by
    have hgW:W.heap[g]?=some (.cells cur1 127 (0,0)):=by rw[hW];exact setRow_heap _ _ _ _ _ _ hgd
    have hvW:W.heap[vb]?=some (.cells vcur 127 (0,0)):=by rw[hW,setRow_other _ _ _ _ hvb];exact hv
    have:=Ze (P:=Tryz.prog) W 48 48 ty 127 2 g (i*2) (n+m - i) dc ⟨vb,0,none⟩ m vc cur1 127 vs m (by omega) hu hsz hgW hvl2 (fun j v hj=>by
      rw[e2,List.getElem?_take]at hj;split at hj
      . rw[Addr.add_lit];simp only[World.cell?,hvW,Nat.zero_add];simpa using hj
      . cases hj) (by rw[hvl2,hs1];omega) h1v
    rw[this];congr 2
    apply Array.toList_inj.1;rw[e3,hcur1];simp only[];rw[Zhp cur.toList cs vs (i*2) ((i+m)*2) ((n+m)*2) (by rw[hvl2];omega) (by rw[hcl];omega) (by simp;omega)]
  have mixed:Tryz.prog.follows Departure.mixedOrders=true:=by kernel_rfl
  go_enter Tryz.func192,Tryz.ntmps192
  go_wp2_with (simp only[hov])
  go_region_law_o (refine step_copy_runI rfl _ _ 48 48 rfl _ _ (by simp[Act.eval,Act.put]) (by simp[Act.eval,Act.put]) (hcp1 _ _ _) ?_)
  go_wp2_with (at_builtin;refine wpList_copy_runI _ rfl _ _ 48 48 rfl _ _ rfl rfl (hcp2 _ rfl _ _) ?_)
  go_ret
  first|exact⟨rfl,rfl⟩|exact⟨rfl,by rw[setRow_setRow]⟩
set_option maxRecDepth 100000 in
theorem Zvi (w:World) (g n c i vb m vc:Nat) (hd cs vs:List Value) (cur vcur:Array Value) (hi:i<n) (hm:0<m) (hnc:n<=c) (hroom:c<n+m) (hbig:(n+m)*24<=140737488355328) (hg:w.heap[g]?=some (.cells cur 127 (0,0))) (hcs:cur.size=c*2) (hv:w.heap[vb]?=some (.cells vcur 127 (0,0))) (hvl:m*2<=vcur.size) (e0:hd=cur.toList.take (i*2)) (e1:cs=(cur.toList.drop (i*2)).take ((n - i)*2)) (e2:vs=vcur.toList.take (m*2)) (h1c:∀v∈cs,v.oneCell'=true) (h1v:∀v∈vs,v.oneCell'=true) : Calls Tryz.prog 192 #[.slice (some ⟨g,0,none⟩) n c,.int .i64 i,.slice (some ⟨vb,0,none⟩) m vc] w fun e w'=>∃(G:Nat) (cur3:Array Value),e=.returned (.slice (some ⟨w.heap.size,0,none⟩) (n+m) G)/\n+m<=G/\G<=maxLen/\cur3.size=G*2/\cur3.toList.take ((n+m)*2)=hd++vs++cs /\ w'.heap[w.heap.size]?=some (.cells cur3 127 (0,0))/\w.grownBy w' none:=by
  have hz1:¬((m:Int)=0):=by omega
  have hz2:¬((i:Int)=(n:Int)):=by omega
  have hz3:(c:Int)<(n:Int)+(m:Int):=by omega
  have hw1:IntKind.i64.wrap ((i:Int)+(m:Int))=(i:Int)+(m:Int):=by rw[IntKind.wrap_i64];omega
  have hb1:(0:Int)<=(i:Int)+(m:Int):=by omega
  have hin:i<=n:=by omega
  have htn:((i:Int)+(m:Int)).toNat=i+m:=by omega
  have hb3:(i:Int)<=(n:Int):=by omega
  have hu:=Tryz.underlying48;have hsz:(Tryz.prog.info? 127).map (·.size)=some 2:=by kernel_rfl
  obtain⟨i0,hi0⟩:∃i0,Tryz.prog.info? 127=some i0:=by
    cases hq:Tryz.prog.info? 127 with
    | none=>rw[hq]at hsz;simp at hsz
    | some i=>exact⟨i,rfl⟩
  have hk:i0.size=2:=by rw[hi0]at hsz;simpa using hsz
  have hby:i0.bytes=24:=by
    have:(Tryz.prog.info? 127).map (·.bytes)=some 24:=by kernel_rfl
    rw[hi0]at this;simpa using this
  obtain⟨z,hz,hzs⟩:∃z,i0.zero=some z/\z.cells.size=2:=by
    have:(Tryz.prog.info? 127).bind (fun i=>i.zero.map (fun z=>z.cells.size))=some 2:=by kernel_rfl
    rw[hi0]at this;simp only[Option.bind_some,Option.map_eq_some_iff]at this;exact this
  have hbw:g<w.heap.size:=(Array.getElem?_eq_some_iff.1 hg).1;have hvw:vb<w.heap.size:=(Array.getElem?_eq_some_iff.1 hv).1;have hkk:(n:Int)+(m:Int) - (i:Int)=((n+m - i:Nat):Int):=by omega
  have hik:i+(n+m - i)=n+m:=by omega
  have hgd:w.drew.heap[g]?=some (.cells cur 127 (0,0)):=hg;have hhl:hd.length=i*2:=by rw[e0];simp;omega
  have hold:(Builtin.firstCells i0.size i (.slice (some ⟨g,0,none⟩) i c)).run Tryz.prog w.drew=.ok hd.toArray w.drew:=by
    rw[hk];exact run_firstCells_some w.drew 2 i ⟨g,0,none⟩ i c hd hhl (fun j v hj=>by
      rw[Addr.add_lit];rw[e0,List.getElem?_take]at hj;split at hj
      . simp only[World.cell?,hgd,Nat.zero_add];simpa using hj
      . cases hj)
  have hrz:∀ty,(Builtin.append_ #[48,3] ty #[.slice (some ⟨g,0,none⟩) i c,.int .i64 ((n:Int)+(m:Int) - (i:Int))]).run Tryz.prog w =
      .ok (.slice (some ⟨w.heap.size,0,none⟩) (n+m) (grownCap w (n+m) c 127)) (w.drew.alloc (.cells (hd.toArray++Builtin.zeroCells z.cells (n+m - i)++Builtin.zeroCells z.cells (grownCap w (n+m) c 127 - (n+m))) 127)):=fun ty=>by
    have h:=Lib.run_append_grow_zeros w 48 3 ty 127 i0 z .i64 .i64 hu Tryz.underlying3 hi0 hz (some ⟨g,0,none⟩) i c hd hold (n+m - i) (by omega) (by omega) (by omega) (by omega) (by rw[hby];omega) (by rw[hby,hik];exact growslice_fits hroom hbig);rw[hik]at h;rw[hkk];exact h
  obtain⟨G,hG⟩:∃G,G=grownCap w (n+m) c 127:=⟨_,rfl⟩
  obtain⟨ROW,hROW⟩:∃ROW:Array Value,ROW=hd.toArray++Builtin.zeroCells z.cells (n+m - i)++Builtin.zeroCells z.cells (G - (n+m)):=⟨_,rfl⟩
  rw[<- hG]at hrz;rw[<- hROW]at hrz;have hGn:n+m<=G:=by rw[hG];exact grownCap_ge w _ _ _
  have hG63:G<=maxLen:=by have:=grownCap_le_maxLen w (n+m) c 127 (by unfold maxLen;omega);rw[<- hG]at this;exact this
  have hG63':G<=9223372036854775807:=hG63;have hRl:ROW.size=G*2:=by rw[hROW];simp only[Array.size_append,List.size_toArray,Z1q,hzs,hhl];omega
  have hRt:ROW.toList.take (i*2)=hd:=by rw[hROW];simp only[Array.toList_append,List.append_assoc];rw[List.take_append_of_le_length (by omega),List.take_of_length_le (by omega)]
  have hcl:cs.length=(n - i)*2:=by rw[e1];simp;omega
  have hvl2:vs.length=m*2:=by rw[e2];simp;omega
  obtain⟨W1,hW1⟩:∃W1,W1=w.drew.alloc (.cells ROW 127):=⟨_,rfl⟩
  rw[<- hW1]at hrz;have hN:W1.heap[w.heap.size]?=some (.cells ROW 127 (0,0)):=by rw[hW1];exact heap_alloc_new w.drew _
  have hO:∀k,k<w.heap.size->W1.heap[k]?=w.heap[k]?:=fun k hk=>by rw[hW1];exact heap_alloc_old w.drew _ hk
  obtain⟨cur2,hcur2⟩:∃cur2:Array Value,cur2=(ROW.toList.take (i*2)++vs++ROW.toList.drop (i*2+vs.length)).toArray:=⟨_,rfl⟩
  obtain⟨cur3,hcur3⟩:∃cur3:Array Value,cur3=(cur2.toList.take ((i+m)*2)++cs++cur2.toList.drop ((i+m)*2+cs.length)).toArray:=⟨_,rfl⟩
  have hs2:cur2.size=ROW.size:=by rw[hcur2];simp only[List.size_toArray,qy11,List.length_take,List.length_drop,Array.length_toList,hvl2];omega
  have hs3:cur3.size=ROW.size:=by rw[hcur3];simp only[List.size_toArray,qy11,List.length_take,List.length_drop,Array.length_toList,hcl,hs2];omega
  have ht3:cur3.toList.take ((n+m)*2)=hd++vs++cs:=by rw[hcur3,hcur2];simp only[];rw[hRt,Zhq hd vs cs _ ((i+m)*2) (by omega)];rw[List.take_append_of_le_length (by simp only[qy11];omega),List.take_of_length_le (by simp only[qy11];omega)]
  have hcpA:∀(W:World),W.heap=W1.heap->∀ty dc,(Builtin.copy_ #[48,48] ty #[.slice (some ⟨w.heap.size,i*2,none⟩) (n+m - i) dc,.slice (some ⟨vb,0,none⟩) m vc]).run Tryz.prog W=.ok (goInt m) (W.setRow w.heap.size cur2):=fun W hW ty dc=>by
    rw[hcur2];exact Ze (P:=Tryz.prog) W 48 48 ty 127 2 w.heap.size (i*2) (n+m - i) dc ⟨vb,0,none⟩ m vc ROW 127 vs m (by omega) hu hsz (by rw[hW];exact hN) hvl2 (fun j v hj=>by
      rw[e2,List.getElem?_take]at hj;split at hj
      . rw[Addr.add_lit];simp only[World.cell?,hW,hO vb hvw,hv,Nat.zero_add];simpa using hj
      . cases hj) (by rw[hvl2,hRl];omega) h1v
  have hcpB:∀(W:World),W.heap=(W1.setRow w.heap.size cur2).heap->∀ty dc sc,(Builtin.copy_ #[48,48] ty #[.slice (some ⟨w.heap.size,(i+m)*2,none⟩) (n+m - (i+m)) dc,.slice (some ⟨g,i*2,none⟩) (n - i) sc]).run Tryz.prog W=.ok (goInt ((n - i:Nat):Int)) (W.setRow w.heap.size cur3):=fun W hW ty dc sc=>by
    rw[hcur3];exact Ze (P:=Tryz.prog) W 48 48 ty 127 2 w.heap.size ((i+m)*2) (n+m - (i+m)) dc ⟨g,i*2,none⟩ (n - i) sc cur2 127 cs (n - i) (by omega) hu hsz (by rw[hW];exact setRow_heap _ _ _ _ _ _ hN) hcl (fun j v hj=>by
      rw[e1,List.getElem?_take]at hj;split at hj
      . rw[Addr.add_lit];simp only[World.cell?,hW,setRow_other _ _ _ _ (Nat.ne_of_lt hbw),hO g hbw,hg];simpa using hj
      . cases hj) (by rw[hcl,hs2,hRl];omega) h1c
  have hGi:¬(G=i):=by omega
  have hGim:¬(G=i+m):=by omega
  have hci:¬(c=i):=by omega
  have hfin:∀W:World,W.heap=(W1.setRow w.heap.size cur2).heap->W.os=w.os->W.tape=w.tape->W.output=w.output->∃(G':Nat) (cur4:Array Value),Ending.returned (.slice (some ⟨w.heap.size,0,none⟩) (n+m) G)=.returned (.slice (some ⟨w.heap.size,0,none⟩) (n+m) G')/\n+m<=G'/\G'<=maxLen/\cur4.size=G'*2/\cur4.toList.take ((n+m)*2)=hd++vs++cs /\
      (W.setRow w.heap.size cur3).heap[w.heap.size]?=some (.cells cur4 127 (0,0))/\w.grownBy (W.setRow w.heap.size cur3) none:=by
    intro W hW ho ht hou;refine⟨G,cur3,rfl,hGn,hG63,by rw[hs3,hRl],ht3,setRow_heap _ _ _ _ _ _ (by rw[hW];exact setRow_heap _ _ _ _ _ _ hN),⟨ho,ht,hou,?_,fun k hk _=>?_⟩⟩
    . rw[setRow_size,hW,setRow_size,hW1];exact Nat.le_of_lt (by show w.heap.size<(w.heap.push _).size;rw[Array.size_push];omega)
    . rw[setRow_other _ _ _ _ (by omega),hW,setRow_other _ _ _ _ (by omega)];exact hO k hk
  subst hW1;have mixed:Tryz.prog.follows Departure.mixedOrders=true:=by kernel_rfl
  have hE1:((w.alloc (.cells ROW 127)).drew).heap=(w.drew.alloc (.cells ROW 127)).heap:=rfl;have hF1:(((w.alloc (.cells ROW 127)).drew.setRow w.heap.size cur2).drew).heap=((w.drew.alloc (.cells ROW 127)).setRow w.heap.size cur2).heap:=rfl;clear hkk hik hold hROW hG hRl hcur2 hcur3 hs2 hs3 ht3 hRt;go_enter Tryz.func192,Tryz.ntmps192
  go_wp2_with (first
    | (at_builtin;refine Lib.wpList_append_run _ rfl _ _ _ _ rfl _ _ rfl rfl _ _ (hrz _) ?_)
    | (at_builtin;refine wpList_copy_runI _ rfl _ _ 48 48 rfl _ _ rfl rfl (hcpA _ hE1 _ _) ?_)
    | (at_builtin;refine wpList_copy_runI _ rfl _ _ 48 48 rfl _ _ rfl rfl (hcpB _ hF1 _ _ _) ?_))
  go_region_law_o (refine step_copy_runI rfl _ _ 48 48 rfl (.slice (some ⟨w.heap.size,(i+m)*2,none⟩) (n+m - (i+m)) (G - (i+m))) (.slice (some ⟨g,i*2,none⟩) (n - i) (c - i)) (by simp[Act.eval,Act.put]) (by simp[Act.eval,Act.put]) (hcpB _ hF1 3 (G - (i+m)) (c - i)) ?_)
  go_wp2
  go_ret
  exact hfin _ rfl rfl rfl rfl
theorem Zvj (w:World) (s v:Value) (i:Nat) (R V:List (List Value)) (hs:owns w s 127 [.int .i64,.str] R) (hv:owns w v 127 [.int .i64,.str] V) (hne:∀k,Z2 s k->Z2 v k->False) (hi:i<=R.length) (hb:(R.length+V.length)*24<=140737488355328) : Calls Tryz.prog 192 #[s,.int .i64 i,v] w fun e w'=>∃v',e=.returned v'/\Zg6 w w' s v' 127 [.int .i64,.str] (R.take i++V++R.drop i):=by
  have hs':=hs;have hv':=hv;obtain⟨hk1,hl1,ho⟩:=hs;obtain⟨hk2,hl2,hov⟩:=hv;have hu:=Tryz.underlying48;have hrl1:∀r∈R,r.length=2:=fun r hr=>(hk1 r hr).length;have hrl2:∀r∈V,r.length=2:=fun r hr=>(hk2 r hr).length;obtain⟨inf,hinf⟩:∃i0,Tryz.prog.info? 127=some i0:=by
    have:(Tryz.prog.info? 127).isSome=true:=by kernel_rfl
    exact Option.isSome_iff_exists.1 this
  have hk:inf.size=2:=by
    have:(Tryz.prog.info? 127).map (·.size)=some 2:=by kernel_rfl
    rw[hinf]at this;simpa using this
  have hby:inf.bytes=24:=by
    have:(Tryz.prog.info? 127).map (·.bytes)=some 24:=by kernel_rfl
    rw[hinf]at this;simpa using this
  obtain⟨z,hz,hzs⟩:∃z,inf.zero=some z/\z.cells.size=2:=by
    have:(Tryz.prog.info? 127).bind (fun i=>i.zero.map (fun z=>z.cells.size))=some 2:=by kernel_rfl
    rw[hinf]at this;simp only[Option.bind_some,Option.map_eq_some_iff]at this;exact this
  have hbase:∀{v:Value} {n:Nat} {xs:List Value},((v=.slice none 0 0/\n=0)\/∃g cap cur,v=.slice (some ⟨g,0,none⟩) n cap/\0<=g/\w.heap[g]?=some (.cells cur 127 (0,0))/\n<=cap/\cap<=maxLen/\cur.size=cap*2/\cur.toList.take (n*2)=xs)->∃b c,v=.slice b n c/\n<=c/\(b=none->c=0):=by
    intro v n xs h;rcases h with ⟨rfl,rfl⟩|⟨g,cap,cur,rfl,-,-,h,-⟩
    . exact⟨none,0,rfl,Nat.le_refl _,fun _=>rfl⟩
    . exact⟨some ⟨g,0,none⟩,cap,rfl,h,fun h=>by cases h⟩
  by_cases hV:V=[]
  . subst hV;obtain⟨b,c,rfl,hc1,hc2⟩:=hbase ho;obtain⟨vb,vc,rfl,-,-⟩:=hbase hov;refine(Zvh w b R.length c i vb vc hi hc1 hc2).mono ?_;rintro e w' ⟨rfl,rfl⟩;exact⟨_,rfl,by simpa using hs',fun k hk=>.inl hk,Z7p _ _⟩
  have hVl:0<V.length:=List.length_pos_iff.2 hV;by_cases hin:i=R.length
  . subst hin;obtain⟨b,c,rfl,hc1,hc2⟩:=hbase ho;obtain⟨vb,vc,rfl,-,-⟩:=hbase hov;obtain⟨v',w',h1,h2,h3,h4⟩:=Z5e (ks:=[.int .i64,.str]) (ty:=48) hu hinf hz hk hzs hby (by decide) hs' hv'.reads hb (by decide);have hrun:∀ty,(Builtin.append_ #[48,48] ty #[.slice b R.length c,.slice vb V.length vc]).run Tryz.prog w=.ok v' w':=fun ty=>h1;refine(Z10a w b R.length c vb V.length vc hVl hc1 hc2 v' w' hrun).mono ?_;rintro e w1 ⟨rfl,rfl⟩;exact⟨_,rfl,by simpa using h2,h4,h3⟩
  have hin:i<R.length:=by omega
  rcases ho with ⟨-,hn⟩|⟨g,c,cur,rfl,-,hg,hnc,hcm,hcs,htk⟩
  . omega
  rcases hov with ⟨-,hn⟩|⟨vb,vc,vcur,rfl,-,hvg,hvn,-,hvs,hvt⟩
  . omega
  replace hcs:cur.size=c*2:=hcs;replace hvs:vcur.size=vc*2:=hvs;replace htk:cur.toList.take (R.length*2)=R.flatten:=htk;replace hvt:vcur.toList.take (V.length*2)=V.flatten:=hvt;replace hl1:R.flatten.length=R.length*2:=hl1;have hcl2:cur.toList.length=c*2:=by rw[Array.length_toList];exact hcs
  replace hl2:V.flatten.length=V.length*2:=hl2;have hvb:vb≠g:=fun e=>hne g rfl (by rw[<- e];rfl);have t1:cur.toList.take (i*2)=(R.take i).flatten:=by rw[<- Z1l i hrl1,<- htk,List.take_take,Nat.min_eq_left (by omega)]
  have t2:(cur.toList.drop (i*2)).take ((R.length - i)*2)=(R.drop i).flatten:=by rw[<- Z1m i hrl1,<- htk,List.drop_take,Nat.sub_mul]
  have o1:∀x∈(R.drop i).flatten,x.oneCell'=true:=Z3h fun r hr=>hk1 r (List.mem_of_mem_drop hr);have o2:∀x∈V.flatten,x.oneCell'=true:=Z3h hk2;have hrows:∀r∈R.take i++V++R.drop i,rowOk [.int .i64,.str] r:=by
    intro r hr;simp only[qy13]at hr;rcases hr with (hr|hr)|hr
    . exact hk1 r (List.mem_of_mem_take hr)
    . exact hk2 r hr
    . exact hk1 r (List.mem_of_mem_drop hr)
  have hlen:(R.take i++V++R.drop i).length=R.length+V.length:=by simp;omega
  have hfl:(R.take i++V++R.drop i).flatten.length=(R.length+V.length)*2:=by have:=Za (n:=2) (fun r hr=>(hrows r hr).length);rw[hlen]at this;exact this
  by_cases hroom:R.length+V.length<=c
  . obtain⟨cur2,hcur2⟩:∃cur2:Array Value,cur2=(cur.toList.take (i*2)++V.flatten++(R.drop i).flatten++cur.toList.drop ((R.length+V.length)*2)).toArray:=⟨_,rfl⟩
    refine(Zr6 w g R.length c i vb V.length vc (R.drop i).flatten V.flatten cur vcur cur2 hin hVl hroom hcm hvb hg hcs hvg (by omega) t2.symm hvt.symm o1 o2 (by rw[hcur2])).mono ?_;rintro e w' ⟨rfl,rfl⟩;have hgd:w.drew.heap[g]?=some (.cells cur 127 (0,0)):=hg;refine⟨_,rfl,⟨hrows,?_,.inr ⟨g,c,cur2,by rw[hlen],Nat.zero_le _,setRow_heap _ _ _ _ _ _ hgd,by omega,hcm,?_,?_⟩⟩,fun k hk=>.inl hk,⟨rfl,rfl,rfl,by rw[setRow_size];exact Nat.le_refl _,fun k hk hkr=>setRow_other _ _ _ _ (fun e=>hkr (by rw[e];rfl))⟩⟩
    . rw[hfl,hlen];rfl
    . show cur2.size=c*2
      rw[hcur2];have:(cur.toList.take (i*2)++V.flatten++(R.drop i).flatten).length=(R.length+V.length)*2:=by rw[t1,<- hfl];simp[List.flatten_append]
      rw[List.size_toArray,qy11,this,List.length_drop,hcl2];omega
    . have:cur.toList.take (i*2)++V.flatten++(R.drop i).flatten=(R.take i++V++R.drop i).flatten:=by
        rw[t1];simp[List.flatten_append]
      show cur2.toList.take (_*2)=_
      rw[hcur2,List.toList_toArray,this,hlen,List.take_append_of_le_length (by omega),List.take_of_length_le (by omega)]
  . refine(Zvi w g R.length c i vb V.length vc (R.take i).flatten (R.drop i).flatten V.flatten cur vcur hin hVl hnc (by omega) (by omega) hg hcs hvg (by omega) t1.symm t2.symm hvt.symm o1 o2).mono ?_;rintro e w' ⟨G,cur3,rfl,q1,q2,q3,q4,q5,q6⟩;refine⟨_,rfl,⟨hrows,?_,.inr ⟨w.heap.size,G,cur3,by rw[hlen],Nat.zero_le _,q5,by omega,q2,q3,?_⟩⟩,fun k hk=>.inr ?_,⟨q6.os,q6.tape,q6.output,q6.size,fun k hk _=>q6.block k hk (by simp)⟩⟩
    . rw[hfl,hlen];rfl
    . rw[hlen]
      show cur3.toList.take ((R.length+V.length)*2)=_
      rw[q4];simp[List.flatten_append]
    . have:w.heap.size=k:=Option.some.inj hk;omega
end Go.Proofs.YtkhakgbnfapifaaGreatDoor
namespace Go.Proofs.YtkhakgbnfapifaaGreatDoor
open Go.Sx
def Z6c (n:Int):Int×List UInt8:=if 269<=n then (14,numB 2 (n - 269)) else if 13<=n then (13,numB 1 (n - 13)) else (n,[])
theorem Zcv {n:Int} (h:0<=n):0<=(Z6c n).1/\(Z6c n).1<=14/\(Z6c n).2.length<=2:=by
 unfold Z6c;split
 ·simp[Zb]
 ·split
  ·simp[Zb]
  ·simp;omega
theorem Z124 (w:World) (n:Int) (h0:0<=n) (h1:n<=4611686018427387904):Calls Tryz.prog 309 #[.int .i64 n] w fun e w'=>e=.returned (.tuple #[.int .i64 (Z6c n).1,.string ⟨(Z6c n).2.toArray⟩])/\Mod [] w w':=by
 refine Z1 (Z7 (ρ:=[.i n]) sxE_ok Tryz.func309 Zb9 rfl rfl rfl ?_) rfl;simp only[Tree.goal,X.P,X.ev,SV.ev,CV.ev,Sc.ev,qz,QA,QC,QL,QM];refine⟨fun h w' hr=>⟨?_,hr.mod⟩,fun h=>⟨fun h2=>⟨by omega,by omega,[.s (numB 1 (n - 13))],rfl,fun _ w' _=>Z57 w' (n - 13) 1 (by omega) (by omega) (by omega),?_⟩,fun h2=>⟨by omega,by omega,[.s (numB 2 (n - 269))],rfl,fun _ w' _=>Z57 w' (n - 269) 2 (by omega) (by omega) (by omega),?_⟩⟩⟩
 ·rw[Z6c,if_neg (by omega),if_neg (by omega)]
 ·simp only[qz,QC];exact fun w' hr=>⟨by rw[Z6c,if_neg (by omega),if_pos (by omega)],hr.mod⟩
 ·simp only[qz,QC];exact fun w' hr=>⟨by rw[Z6c,if_pos (by omega)],hr.mod⟩
def optB (was:Int) (o:Opt):List UInt8:=numB 1 (16*(Z6c (o.1 - was)).1+(Z6c o.2.length).1)++(Z6c (o.1 - was)).2++(Z6c o.2.length).2++o.2
def Zr7:Int->List Opt->List UInt8
 | _,[]=>[]
 | was,o::l=>optB was o++Zr7 o.1 l
def msgB (m:Msg):List UInt8:=numB 1 (64+16*m.kind+m.tok.length)++numB 1 m.code++numB 2 m.id++m.tok++Zr7 0 m.opts++(if m.pay=[] then [] else 255::m.pay)
theorem Zk6 {was:Int} {o:Opt} {l:List Opt}:optE was (o::l)=0↔(0<=o.1/\o.1<=65535)/\was<=o.1/\o.2.length<=60/\optE o.1 l=0:=by
 simp only[optE];constructor
 ·intro h;split at h
  ·split at h
   ·exact absurd h (by decide)
   ·split at h
    ·exact absurd h (by decide)
    ·exact⟨by assumption,by omega,by omega,h⟩
  ·exact absurd h (by decide)
 ·rintro⟨h1,h2,h3,h4⟩;rw[if_pos h1,if_neg (by omega),if_neg (by omega),h4]
theorem Z10b {was:Int} {o:Opt} (h:was<=o.1) (h2:o.2.length<=60):(optB was o).length<=65:=by have h3:=Zcv (n:=o.1 - was) (by omega);have h4:=Zcv (n:=(o.2.length:Int)) (by omega);simp only[optB,qy11,Zb];omega
theorem or16 (a b:Int) (h:0<=a/\a<=14) (h2:0<=b/\b<=14):Z14 .or .i64 (IntKind.i64.wrap (a*2 ^ (Nat.min (Int.toNat 4) IntKind.i64.bits))) b=16*a+b:=by
 have:∀x y:Fin 16,Z14 .or .i64 (IntKind.i64.wrap ((x.val:Int)*2 ^ (Nat.min (Int.toNat 4) IntKind.i64.bits))) (y.val:Int)=16*(x.val:Int)+y.val:=by decide +kernel
 have:=this ⟨a.toNat,by omega⟩ ⟨b.toNat,by omega⟩;simpa only[Int.toNat_of_nonneg h.1,Int.toNat_of_nonneg h2.1]using this
theorem or64 (a b:Int) (h:0<=a/\a<=3) (h2:0<=b/\b<=8):Z14 .or .i64 (Z14 .or .i64 64 (IntKind.i64.wrap (a*2 ^ (Nat.min (Int.toNat 4) IntKind.i64.bits)))) b=64+16*a+b:=by
 have:∀(x:Fin 4) (y:Fin 16),Z14 .or .i64 (Z14 .or .i64 64 (IntKind.i64.wrap ((x.val:Int)*2 ^ (Nat.min (Int.toNat 4) IntKind.i64.bits)))) (y.val:Int)=64+16*(x.val:Int)+y.val:=by decide +kernel
 have:=this ⟨a.toNat,by omega⟩ ⟨b.toNat,by omega⟩;simpa only[Int.toNat_of_nonneg h.1,Int.toNat_of_nonneg h2.1]using this
theorem Z14o (w:World) (o:Opt) (was:Int) (h:0<=was/\was<=o.1/\o.1<=65535) (h2:o.2.length<=60):Calls Tryz.prog 262 #[.agg #[.int .i64 o.1,.string ⟨o.2.toArray⟩],.int .i64 was] w fun e w'=>e=.returned (.string ⟨(optB was o).toArray⟩)/\Mod [] w w':=by
 refine Z1 (Z7 (ρ:=[.i o.1,.s o.2,.i was]) sxE_ok Tryz.func262 Z9v rfl rfl rfl ?_) rfl;simp only[Tree.goal,X.P,X.ev,SV.ev,CV.ev,Sc.ev,qz,QA,QC,QL,QM];intro b;refine⟨by omega,by omega,[.i (Z6c (o.1 - was)).1,.s (Z6c (o.1 - was)).2],rfl,fun _ w' _=>Z124 w' _ (by omega) (by omega),?_⟩;simp only[qz,QA,QC,QL,QM];refine⟨[.i (Z6c o.2.length).1,.s (Z6c o.2.length).2],rfl,fun _ w' _=>Z124 w' _ (by omega) (by omega),?_⟩;simp only[qz,QA,QC,QL,QM];have h3:=Zcv (n:=o.1 - was) (by omega);have h4:=Zcv (n:=(o.2.length:Int)) (by omega);rw[or16 _ _ (by omega) (by omega)];refine⟨[.s (numB 1 (16*(Z6c (o.1 - was)).1+(Z6c o.2.length).1))],rfl,fun _ w' _=>Z57 w' _ 1 (by omega) (by omega) (by omega),?_⟩;simp only[qz,QC,qy11,Zb]
 (repeat refine⟨by omega,?_⟩)
 exact fun w' hr=>⟨rfl,hr.mod⟩
theorem Z14p (os:List Opt) (i:Nat) (h:i<os.length):os.take (i+1)=os.take i++[os.getD i oD]:=by rw[List.take_add_one,qy1,qy7 h];rfl
set_option maxRecDepth 10000 in
theorem Zr8 (w:World) (m:Msg) (v:Value) (hv:Z24 w v m.opts) (hc:chk m=0) : Calls Tryz.prog 197 #[mV m (sc1 v)] w fun e w'=>e=.returned (.string ⟨(msgB m).toArray⟩)/\Mod [] w w':=by
 obtain⟨hk,hr,hl,ho,-⟩:=Z79.1 hc;refine Z1 (Z4 (ρ:=[.i m.kind,.i m.code,.i m.id,.s m.tok,.v v,.r (m.opts.map encO),.s m.pay]) (sxE_ok.joins _) Tryz.func197 Z9t rfl rfl (Rel.start2 (by simp[Ent.holds,Ent.wr,hv,X.ev])) rfl rfl ?_) rfl;simp only[Tree.goal,X.P,X.ev,SV.ev,CV.ev,Sc.ev,qz,QA,QC,QD,QH,QJ,QK,QL,QM,Nat.reduceAdd,qy3];intro b;rw[or64 _ _ (by omega) (by omega)];refine⟨[.s (numB 1 (64+16*m.kind+m.tok.length))],rfl,fun _ w' _=>Z57 w' _ 1 (by omega) (by omega) (by omega),?_⟩;simp only[qz,QC,QL,QM];refine⟨[.s (numB 1 m.code)],rfl,fun _ w' _=>Z57 w' _ 1 (by omega) (by omega) (by omega),?_⟩;simp only[qz,QC,QL,QM,Nat.reduceAdd,qy11,Zb]
 (repeat refine⟨by omega,?_⟩)
 refine⟨[.s (numB 2 m.id)],rfl,fun _ w' _=>Z57 w' _ 2 (by omega) (by omega) (by omega),?_⟩;simp only[qz,QC,QL,QM,Nat.reduceAdd,Zb]
 (repeat refine⟨by omega,?_⟩)
 refine⟨fun vs=>∃(i:Nat) (acc:List UInt8) (was:Int),vs=[.s acc,.i was,.i i]/\i<=m.opts.length/\0<=was/\optE was (m.opts.drop i)=0/\acc.length<=100+100*i /\
   acc++Zr7 was (m.opts.drop i)=numB 1 (64+16*m.kind+m.tok.length)++numB 1 m.code++numB 2 m.id++m.tok++Zr7 0 m.opts,fun vs=>(m.opts.length - (vs.getD 2 (.i 0)).toI).toNat,⟨0,_,0,rfl,by omega,by omega,ho,by simp only[qy11,Zb];omega,rfl⟩,?_⟩
 rintro _ - ⟨i,acc,was,rfl,hi,hw,hg,hal,hacc⟩;simp only[qz,QA,QC,QL,QM,qy4,Z22,Z23];refine⟨fun h1=>?_,fun h1=>?_⟩
 ·rw[Z14n m.opts i (by omega)]at hg hacc;generalize m.opts.getD i oD=o at hg hacc ⊢
  obtain⟨g1,g2,g3,g4⟩:=Zk6.1 hg
  (repeat refine⟨by omega,?_⟩)
  intro b;refine⟨[.s (optB was o)],rfl,fun _ w' _=>Z14o w' o was (by omega) g3,?_⟩;simp only[qz,QC];have:=Z10b g2 g3;refine⟨by omega,by omega,by omega,⟨i+1,_,o.1,rfl,by omega,by omega,g4,by simp only[qy11];omega,?_⟩,by omega⟩;rw[<- hacc,Zr7];simp
 ·have:i=m.opts.length:=by omega
  subst this;rw[List.drop_length,Zr7,List.append_nil]at hacc;refine⟨fun h2=>⟨by simp;omega,by simp;omega,fun w' hr=>⟨?_,hr.mod⟩⟩,fun h2 w' hr=>⟨?_,hr.mod⟩⟩
  ·rw[msgB,<- hacc,if_neg h2]
  ·rw[msgB,<- hacc,if_pos (qy9.1 h2),List.append_nil]
def encR (m:Msg):List UInt8×Int:=if chk m=0 then (msgB m,0) else ([],chk m)
theorem Z10c (w:World) (m:Msg) (v:Value) (hv:Z24 w v m.opts) (hl:m.opts.length<1099511627776) (ht:m.tok.length<1099511627776) (hp:m.pay.length<1099511627776) : Calls Tryz.prog 115 #[mV m (sc1 v)] w fun e w'=>e=.returned (.tuple #[.string ⟨(encR m).1.toArray⟩,.int .i64 (encR m).2])/\Mod [] w w':=by refine Z1 (Z4 (ρ:=[.i m.kind,.i m.code,.i m.id,.s m.tok,.v v,.r (m.opts.map encO),.s m.pay]) sxE_ok Tryz.func115 Z8j rfl rfl (Rel.start2 (by simp[Ent.holds,Ent.wr,hv,X.ev])) rfl rfl ?_) rfl;simp only[Tree.goal,X.P,X.ev,SV.ev,CV.ev,Sc.ev,qz,QA,QC,QE,QL,QM];intro b;refine⟨[.i (chk m)],rfl,fun _ w' hr=>Zbh w' m v (hr.at_ 1 rfl) hl ht hp,?_⟩;simp only[qz,QA,QL,QM];refine⟨fun h w' hr=>⟨by rw[encR,if_neg h],hr.mod⟩,fun h=>?_⟩;have h:=qy9.1 h;refine⟨[.s (msgB m)],rfl,fun _ w' hr=>Zr8 w' m v (hr.at_ 1 rfl) h,?_⟩;simp only[qz,QC];exact fun w' hr=>⟨by rw[encR,if_pos h],hr.mod⟩
abbrev kO:List Kd:=[.int .i64,.str]
abbrev Zvk (w:World) (v:Value) (l:List Opt):Prop:=owns w v 127 kO (l.map encO)
def newO (n:Nat) (u:Value):Prop:=∀k,Z2 u k->n<=k
theorem Zoj {ρ:List V} {g:List Nat} {i:Nat} (hi:i∈g) {k:Nat} (h:Z2 (ρ.getD i (.i 0)).toV k):k∈Z10 ρ g:=List.mem_flatMap.2 ⟨i,hi,by rw[h];simp⟩
theorem Zvl {v:Value} (hn:(match v with | .slice none _ _=>true|_=>false)=true) {w:World} {ks:List Kd} {rows:List (List Value)} (h:reads w v ks rows):rows=[]:=by obtain⟨_,a,cap,rfl,_,h2⟩:=h;refine Classical.byContradiction fun hne=>?_;obtain⟨ad,rfl,_⟩:=h2 hne;simp at hn
theorem Z10d (w:World) (v:Value) (l:List Opt) (hv:Z24 w v l) (hl:l.length<1000000000):Calls Tryz.prog 244 #[sc1 v] w fun e w'=>∃v',e=.returned (sc1 v')/\Zvk w' v' l/\(∀k,Z2 v' k->w.heap.size<=k)/\Mod [] w w':=by
 refine Z1 (Z4 (ρ:=[.v v,.r (l.map encO)]) sxE_ok Tryz.func244 Z1y rfl rfl (Rel.start2 (by simp[Ent.holds,Ent.wr,hv,X.ev])) rfl rfl ?_) rfl;simp only[Tree.goal,X.P,X.ev,SV.ev,CV.ev,Sc.ev,qz,QA,QB,QD,QE,QK,QL,QM,qy3];refine⟨fun h w' hr=>?_,fun h v1=>⟨by simp only[Int.natCast_zero];omega,fun v2 w' hr=>?_⟩⟩
 ·have hn:l=[]:=List.map_eq_nil_iff.1 (Zvl h hv);subst hn;exact⟨_,rfl,hr.at_ 0 rfl,hr.fresh 0 rfl,hr.mod⟩
 ·exact⟨v2,rfl,hr.at_ 0 rfl,hr.fresh 0 rfl,hr.mod⟩
theorem Z17h (w:World) (s v:Value) (l x:List Opt) (i:Nat) (hs:Zvk w s l) (hv:Zvk w v x) (hne:∀k,Z2 s k->Z2 v k->False) (hi:i<=l.length) (hl:l.length<1000000000) (hx:x.length<1000000000) : Calls Tryz.prog 192 #[sc1 s,.int .i64 i,sc1 v] w fun e w'=>∃v',e=.returned (sc1 v')/\Zvk w' v' (l.take i++x++l.drop i)/\(∀k,Z2 v' k->Z2 s k\/w.heap.size<=k)/\Mod s.ownBlock.toList w w':=by rw[hs.reads.sc1,hv.reads.sc1];refine(Zvj w s v i _ _ hs hv hne (by simpa using hi) (by simp;omega)).mono ?_;rintro e w' ⟨v',rfl,g1,g2,g3⟩;refine⟨v',by rw[g1.reads.sc1],?_,g2,Mod.of_grown g3 fun k hk=>.inl (Option.mem_toList.2 hk)⟩;rw[Zvk,List.map_append,List.map_append,List.map_take,List.map_drop];exact g1
theorem Z10e (R:List Opt) (m:Nat) (x:Opt):(R.map encO).set m [.int .i64 x.1,.string ⟨x.2.toArray⟩]=(R.set m x).map encO:=by rw[List.map_set];rfl
theorem Zok (n:Int) (os:List Opt) (i:Nat) (h:i<os.length):noN n (os.take (i+1))=noN n (os.take i)++(if (os.getD i oD).1=n then [] else [os.getD i oD]):=by
 rw[Z14p os i h,noN,noN,List.filter_append];generalize os.getD i oD=o
 by_cases h1:o.1=n<;>simp[h1]
theorem Z14q (n:Int) (os:List Opt):(noN n os).length<=os.length:=List.length_filter_le _ _
theorem Zvm {n:Int} {os:List Opt} (h:∀j,j<os.length->(os.getD j oD).1≠n):noN n os=os:=by refine Z17g fun o ho=>?_;obtain⟨i,hi,rfl⟩:=List.getElem_of_mem ho;have:=h i hi;rwa [qy1,qy7 hi]at this
theorem Zad (w:World) (m:Msg) (v u:Value) (n:Int) (us:List (List UInt8)) (hv:Z24 w v m.opts) (hu:Zfy w u us) (hl:m.opts.length<1000000000) (hul:us.length<1000000000) : Calls Tryz.prog 111 #[mV m (sc1 v),.int .i64 n,sc1 u] w fun e w'=>∃v',e=.returned (mV m (sc1 v'))/\Z24 w' v' (Z109 m.opts n us)/\newO w.heap.size v'/\Mod [] w w':=by
 refine Z1 (Z4 (ρ:=[.i m.kind,.i m.code,.i m.id,.s m.tok,.v v,.r (m.opts.map encO),.s m.pay,.i n,.v u,.r (us.map Z1i)]) (sxE_ok.joins _) Tryz.func111 Zca rfl rfl (Rel.start2 (by simp[Ent.holds,Ent.wr,hv,hu,X.ev])) rfl rfl ?_) rfl;simp only[Tree.goal,X.P,X.ev,SV.ev,CV.ev,Sc.ev,qz,QA,QC,QD,QE,QG,QH,QI,QJ,QK,QL,QM,Nat.reduceAdd,qy3,Zq];intro b1 b2 b3 b4 b5 w1 hr;refine(Z10d w1 v m.opts (hr.at_ 5 rfl) hl).mono ?_;rintro e w2 ⟨q,rfl,a1,f1,m1⟩;refine⟨[.v q,.r (m.opts.map encO)],rfl,rfl,m1,qy5 _,qy2.2 ⟨⟨a1,fun k hk=>.inl (f1 k hk)⟩,qy5 _⟩,Z3,?_⟩;clear hr a1 f1 m1;simp only[qz,QD,QL,QM,qy3,Z22];intro b6;generalize hos:m.opts=os at hl ⊢
 refine⟨fun vs=>∃u',vs=[.i 0,.i 0,.i 0,.i 0,.i 0,.i 0,.i 0,.i 0,.i 0,.i 0,.v u',.i n,.r ((noN n os).map encO)],?_,?_⟩
 ·refine⟨fun vs=>∃(x:V) (i:Nat),vs=[x,.i i,.i n]/\i<=os.length/\∀j,j<i->(os.getD j oD).1≠n,fun vs=>(os.length - (vs.getD 1 (.i 0)).toI).toNat,⟨_,0,rfl,by omega,fun j hj=>by omega⟩,?_⟩;rintro _ - ⟨x,i,rfl,hi,hn⟩;simp only[qz,QA,QL,QM,qy4];refine⟨fun h1=>?_,fun h1=>?_⟩
  ·(repeat refine⟨by omega,?_⟩)
   intro b7;refine⟨fun h2=>⟨fun h3=>by omega,fun h3=>⟨by omega,by omega,?_⟩⟩,fun h2=>?_⟩
   ·refine⟨fun vs=>∃(a j:Nat) (R:List Opt),vs=[.i a,.i j,.r (R.map encO),.i n]/\a<j/\j<=os.length/\R.length=os.length/\R.take a=noN n (os.take j)/\R.drop j=os.drop j,fun vs=>(os.length - (vs.getD 1 (.i 0)).toI).toNat,
     ⟨i,i+1,os,rfl,by omega,by omega,rfl,?_,rfl⟩,?_⟩
    ·rw[Zok n os i (by omega),if_pos h2,List.append_nil,Zvm];intro j hj;simp only[List.length_take]at hj;have:=hn j (by omega);rw[qy1]at this ⊢;rwa [List.getElem?_take_of_lt (by omega)]
    rintro _ - ⟨a,j,R,rfl,haj,hj,hR,ht,hd⟩;simp only[qz,QA,QD,QL,QM,qy3,qy4,Z22,Z23,hR];have hg:j<os.length->R.getD j oD=os.getD j oD:=fun h=>by have:=congrArg (fun l=>l[0]?) hd;simp only[List.getElem?_drop,Nat.add_zero]at this;rw[qy1,qy1,this]
    refine⟨fun h3=>?_,fun h3=>?_⟩
    ·(repeat refine⟨by omega,?_⟩)
     intro b8 b9;have hjl:j<os.length:=by omega
     have hs1:=Zok n os j hjl;have hg:=hg hjl;have hd':R.drop (j+1)=os.drop (j+1):=by have:=congrArg (fun l=>l.drop 1) hd;simpa [List.drop_drop,Nat.add_comm]using this
     refine⟨fun h4=>?_,fun h4=>?_⟩
     ·(repeat refine⟨by omega,?_⟩)
      refine⟨⟨a+1,j+1,R.set a (R.getD j oD),?_,by omega,by omega,by simpa using hR,?_,?_⟩,by omega⟩
      ·rw[<- Z10e];rfl
      ·rw[hs1,if_neg (by rw[<- hg];exact h4),<- ht,<- hg,Z14p _ _ (by simp;omega)];congr 1
       ·rw[List.take_set_of_le (Nat.le_refl _)]
       ·rw[qy1,List.getElem?_set_self (by omega)];rfl
      ·rw[List.drop_set_of_lt (by omega)];exact hd'
     ·(repeat refine⟨by omega,?_⟩)
      refine⟨⟨a,j+1,R,rfl,by omega,by omega,hR,?_,hd'⟩,by omega⟩;rw[hs1,if_pos (by rw[<- hg];exact qy9.1 h4),List.append_nil];exact ht
    ·have hje:j=os.length:=by omega
     subst hje;rw[List.take_length]at ht;refine⟨by omega,by omega,?_,fun u'=>⟨u',?_⟩⟩
     ·simp only[qy11,List.length_take,List.length_replicate,qy3,hR];omega
     ·congr 1
      simp only[List.cons.injEq,true_and,and_true];congr 1
      rw[List.take_append_of_le_length (by simp;omega),List.take_take,Nat.min_self,<- List.map_take,ht]
   ·(repeat refine⟨by omega,?_⟩)
    refine⟨⟨_,i+1,rfl,by omega,fun j hj=>?_⟩,by omega⟩;by_cases hji:j=i
    ·subst hji;exact h2
    ·exact hn j (by omega)
  ·have hie:i=os.length:=by omega
   subst hie;refine⟨q,?_⟩;rw[Zvm hn]
 rintro _ - ⟨u',rfl⟩;generalize hN:noN n os=R
 have hRl:R.length<1000000000:=by have:=Z14q n os;rw[hN]at this;omega
 simp only[qz,QD,QE,QL,QM,qy3,Z22];refine⟨fun vs=>∃k:Int,vs=[.i 0,.i 0,.i n,.i 0,.i k]/\((k=-1/\∀j,j<R.length->(R.getD j oD).1<=n)\/∃i:Nat,k=i/\i<R.length/\(∀j,j<i->(R.getD j oD).1<=n)/\n<(R.getD i oD).1),?_,?_⟩
 ·refine⟨fun vs=>∃(x:V) (i:Nat),vs=[x,.i i,.i n]/\i<=R.length/\∀j,j<i->(R.getD j oD).1<=n,fun vs=>(R.length - (vs.getD 1 (.i 0)).toI).toNat,⟨_,0,rfl,by omega,fun j hj=>by omega⟩,?_⟩;rintro _ - ⟨x,i,rfl,hi,hn⟩;simp only[qz,QA,QL,QM,qy4];refine⟨fun h1=>?_,fun h1=>⟨-1,rfl,.inl ⟨rfl,fun j hj=>hn j (by omega)⟩⟩⟩
  (repeat refine⟨by omega,?_⟩)
  intro b7;refine⟨fun h2=>⟨i,rfl,.inr ⟨i,rfl,by omega,hn,h2⟩⟩,fun h2=>?_⟩
  (repeat refine⟨by omega,?_⟩)
  refine⟨⟨_,i+1,rfl,by omega,fun j hj=>?_⟩,by omega⟩;by_cases hji:j=i
  ·subst hji;omega
  ·exact hn j (by omega)
 rintro _ - ⟨k,rfl,hk⟩;simp only[qz,QA,QL,QM];refine⟨fun vs=>∃k:Nat,vs=[.i k]/\k<=R.length/\(∀j,j<k->(R.getD j oD).1<=n)/\(k<R.length->n<(R.getD k oD).1),⟨fun h1=>?_,fun h1=>?_⟩,?_⟩
 ·rcases hk with ⟨h2,h3⟩|⟨i,h2,-⟩
  ·exact⟨R.length,rfl,Nat.le_refl _,h3,fun h=>by omega⟩
  ·omega
 ·rcases hk with ⟨h2,h3⟩|⟨i,h2,h3,h4,h5⟩
  ·omega
  ·subst h2;exact⟨i,rfl,by omega,h4,fun _=>h5⟩
 rintro _ - ⟨i,rfl,hi,h1,h2⟩;obtain⟨e1,e2⟩:=Zoi hi h1 h2;simp only[qz,QA,QL,QM];refine⟨fun vs=>∃(v1:Value) (i:Nat),vs=[.v v1,.r (((us.take i).map fun x=>((n,x):Opt)).map encO),.i i]/\i<=us.length,fun vs=>(us.length - (vs.getD 2 (.i 0)).toI).toNat,⟨_,0,rfl,by omega⟩,?_⟩;rintro _ - ⟨v1,j,rfl,hj⟩;simp only[qz,QA,QD,QE,QL,QM,qy3,qy4];refine⟨fun h3=>?_,fun h3 w3 hr=>?_⟩
 ·(repeat refine⟨by omega,?_⟩)
  intro v2;refine⟨by simp;omega,fun v3=>⟨by omega,by omega,⟨v3,j+1,?_,by omega⟩,by omega⟩⟩;rw[List.take_add_one,List.map_append,List.map_append,qy7 (by omega),qy1,qy7 (by omega)];rfl
 ·have:j=us.length:=by omega
  subst this;rw[List.take_length]at hr;refine(Z17h w3 u' v1 R _ i (hr.at_ 1 rfl) (hr.at_ 0 rfl) (fun k h5 h6=>hr.sep.disj (i:=1) (j:=0) rfl rfl (by omega) (.inl rfl) (k:=k) h5 h6) hi hRl (by simpa using hul)).mono ?_;rintro e w4 ⟨v',rfl,g1,g2,g3⟩;refine⟨[.v v',.r ((R.take i++(us.map fun x=>((n,x):Opt))++R.drop i).map encO)],rfl,rfl,g3.mono fun k hk=>.inl (by unfold Zu;exact List.mem_append_right _ (Zoj (i:=28) (by simp) (Option.mem_toList.1 hk))),qy5 _,qy2.2 ⟨⟨g1,fun k hk=>?_⟩,qy5 _⟩,Z3,?_⟩
  ·rcases g2 k hk with h5|h5
   ·exact .inr (.inr (Zoj (i:=28) (by simp) h5))
   ·exact .inl h5
  ·intro w5 hr5;refine⟨v',rfl,?_,hr5.fresh 0 rfl,hr5.mod⟩;have:=(hr5.at_ 0 rfl).reads;rw[e1,e2]at this;rw[Z24,Z109,hN];exact this
end Go.Proofs.YtkhakgbnfapifaaGreatDoor
namespace Go.Proofs
open Go.Shelf
def Tryz.lays144_ren:Go.Shelf.Ren:=⟨fun|144=>226|143=>281|219=>316|217=>340|225=>341|224=>342|267=>343|266=>353|314=>354|n=>n,fun|9=>9|4=>4|3=>3|5=>5|46=>207|146=>345|51=>297|n=>n,fun|1=>0|n=>n⟩
theorem Tryz.lays144:Go.Proofs.Lays.n144 Tryz.prog Tryz.lays144_ren:={
 mixed:=by kernel_rfl
 f143:=Tryz.func281.trans (congrArg some (by kernel_rfl))
 f144:=Tryz.func226.trans (congrArg some (by kernel_rfl))
 f217:=Tryz.func340.trans (congrArg some (by kernel_rfl))
 f219:=Tryz.func316.trans (congrArg some (by kernel_rfl))
 f224:=Tryz.func342.trans (congrArg some (by kernel_rfl))
 f225:=Tryz.func341.trans (congrArg some (by kernel_rfl))
 f266:=Tryz.func353.trans (congrArg some (by kernel_rfl))
 f267:=Tryz.func343.trans (congrArg some (by kernel_rfl))
 f314:=Tryz.func354.trans (congrArg some (by kernel_rfl))
 t3:=Tryz.underlying3
 a3:=Tryz.isAgg3
 z3:=Tryz.sizeOf3
 v3:=Tryz.zeroValue3
 t4:=Tryz.underlying4
 a4:=Tryz.isAgg4
 z4:=Tryz.sizeOf4
 v4:=Tryz.zeroValue4
 t5:=Tryz.underlying5
 a5:=Tryz.isAgg5
 z5:=Tryz.sizeOf5
 v5:=Tryz.zeroValue5
 t9:=Tryz.underlying9
 a9:=Tryz.isAgg9
 z9:=Tryz.sizeOf9
 v9:=Tryz.zeroValue9
 t46:=Tryz.underlying207
 a46:=Tryz.isAgg207
 z46:=Tryz.sizeOf207
 v46:=Tryz.zeroValue207
 t51:=Tryz.underlying297
 a51:=Tryz.isAgg297
 z51:=Tryz.sizeOf297
 v51:=Tryz.zeroValue297
 t146:=Tryz.underlying345
 a146:=Tryz.isAgg345
 z146:=Tryz.sizeOf345
 v146:=Tryz.zeroValue345
 g1:=by kernel_rfl }
def Tryz.lays161_ren:Go.Shelf.Ren:=⟨fun|161=>300|231=>331|227=>324|233=>332|235=>333|228=>325|197=>336|151=>351|260=>352|152=>322|137=>348|119=>349|224=>342|225=>341|217=>340|266=>353|n=>n,fun|9=>9|4=>4|3=>3|5=>5|117=>317|116=>316|0=>0|124=>328|105=>331|21=>21|119=>348|46=>207|139=>351|138=>350|n=>n,fun|3=>1|4=>2|n=>n⟩
theorem Tryz.lays161:Go.Proofs.Lays.n161 Tryz.prog Tryz.lays161_ren:={
 mixed:=by kernel_rfl
 f119:=Tryz.func349.trans (congrArg some (by kernel_rfl))
 f137:=Tryz.func348.trans (congrArg some (by kernel_rfl))
 f151:=Tryz.func351.trans (congrArg some (by kernel_rfl))
 f152:=Tryz.func322.trans (congrArg some (by kernel_rfl))
 f161:=Tryz.func300.trans (congrArg some (by kernel_rfl))
 f197:=Tryz.func336.trans (congrArg some (by kernel_rfl))
 f217:=Tryz.func340.trans (congrArg some (by kernel_rfl))
 f224:=Tryz.func342.trans (congrArg some (by kernel_rfl))
 f225:=Tryz.func341.trans (congrArg some (by kernel_rfl))
 f227:=Tryz.func324.trans (congrArg some (by kernel_rfl))
 f228:=Tryz.func325.trans (congrArg some (by kernel_rfl))
 f231:=Tryz.func331.trans (congrArg some (by kernel_rfl))
 f233:=Tryz.func332.trans (congrArg some (by kernel_rfl))
 f235:=Tryz.func333.trans (congrArg some (by kernel_rfl))
 f260:=Tryz.func352.trans (congrArg some (by kernel_rfl))
 f266:=Tryz.func353.trans (congrArg some (by kernel_rfl))
 t0:=Tryz.underlying0
 a0:=Tryz.isAgg0
 z0:=Tryz.sizeOf0
 v0:=Tryz.zeroValue0
 t3:=Tryz.underlying3
 a3:=Tryz.isAgg3
 z3:=Tryz.sizeOf3
 v3:=Tryz.zeroValue3
 t4:=Tryz.underlying4
 a4:=Tryz.isAgg4
 z4:=Tryz.sizeOf4
 v4:=Tryz.zeroValue4
 t5:=Tryz.underlying5
 a5:=Tryz.isAgg5
 z5:=Tryz.sizeOf5
 v5:=Tryz.zeroValue5
 t9:=Tryz.underlying9
 a9:=Tryz.isAgg9
 z9:=Tryz.sizeOf9
 v9:=Tryz.zeroValue9
 t21:=Tryz.underlying21
 a21:=Tryz.isAgg21
 z21:=Tryz.sizeOf21
 v21:=Tryz.zeroValue21
 t46:=Tryz.underlying207
 a46:=Tryz.isAgg207
 z46:=Tryz.sizeOf207
 v46:=Tryz.zeroValue207
 t105:=Tryz.underlying331
 a105:=Tryz.isAgg331
 z105:=Tryz.sizeOf331
 v105:=Tryz.zeroValue331
 t116:=Tryz.underlying316
 a116:=Tryz.isAgg316
 z116:=Tryz.sizeOf316
 t117:=Tryz.underlying317
 a117:=Tryz.isAgg317
 z117:=Tryz.sizeOf317
 v117:=Tryz.zeroValue317
 t119:=Tryz.underlying348
 a119:=Tryz.isAgg348
 z119:=Tryz.sizeOf348
 t124:=Tryz.underlying328
 a124:=Tryz.isAgg328
 z124:=Tryz.sizeOf328
 v124:=Tryz.zeroValue328
 t138:=Tryz.underlying350
 a138:=Tryz.isAgg350
 z138:=Tryz.sizeOf350
 v138:=Tryz.zeroValue350
 t139:=Tryz.underlying351
 a139:=Tryz.isAgg351
 z139:=Tryz.sizeOf351
 v139:=Tryz.zeroValue351
 g3:=by kernel_rfl
 g4:=by kernel_rfl }
def Tryz.lays156_ren:Go.Shelf.Ren:=⟨fun|156=>227|165=>282|166=>283|169=>253|240=>317|241=>318|276=>344|277=>345|n=>n,fun|31=>155|9=>9|3=>3|4=>4|0=>0|20=>20|72=>260|76=>284|70=>258|37=>241|75=>283|127=>305|164=>336|5=>5|80=>266|n=>n,fun|n=>n⟩
theorem Tryz.lays156:Go.Proofs.Lays.n156 Tryz.prog Tryz.lays156_ren:={
 mixed:=by kernel_rfl
 f156:=Tryz.func227.trans (congrArg some (by kernel_rfl))
 f165:=Tryz.func282.trans (congrArg some (by kernel_rfl))
 f166:=Tryz.func283.trans (congrArg some (by kernel_rfl))
 f169:=Tryz.func253.trans (congrArg some (by kernel_rfl))
 f240:=Tryz.func317.trans (congrArg some (by kernel_rfl))
 f241:=Tryz.func318.trans (congrArg some (by kernel_rfl))
 f276:=Tryz.func344.trans (congrArg some (by kernel_rfl))
 f277:=Tryz.func345.trans (congrArg some (by kernel_rfl))
 t0:=Tryz.underlying0
 a0:=Tryz.isAgg0
 z0:=Tryz.sizeOf0
 v0:=Tryz.zeroValue0
 t3:=Tryz.underlying3
 a3:=Tryz.isAgg3
 z3:=Tryz.sizeOf3
 v3:=Tryz.zeroValue3
 t4:=Tryz.underlying4
 a4:=Tryz.isAgg4
 z4:=Tryz.sizeOf4
 v4:=Tryz.zeroValue4
 t9:=Tryz.underlying9
 a9:=Tryz.isAgg9
 z9:=Tryz.sizeOf9
 v9:=Tryz.zeroValue9
 t20:=Tryz.underlying20
 a20:=Tryz.isAgg20
 z20:=Tryz.sizeOf20
 v20:=Tryz.zeroValue20
 t31:=Tryz.underlying155
 a31:=Tryz.isAgg155
 z31:=Tryz.sizeOf155
 v31:=Tryz.zeroValue155
 t37:=Tryz.underlying241
 a37:=Tryz.isAgg241
 z37:=Tryz.sizeOf241
 v37:=Tryz.zeroValue241
 t70:=Tryz.underlying258
 a70:=Tryz.isAgg258
 z70:=Tryz.sizeOf258
 v70:=Tryz.zeroValue258
 t72:=Tryz.underlying260
 a72:=Tryz.isAgg260
 z72:=Tryz.sizeOf260
 v72:=Tryz.zeroValue260
 t75:=Tryz.underlying283
 a75:=Tryz.isAgg283
 z75:=Tryz.sizeOf283
 v75:=Tryz.zeroValue283
 t76:=Tryz.underlying284
 a76:=Tryz.isAgg284
 z76:=Tryz.sizeOf284
 v76:=Tryz.zeroValue284
 t127:=Tryz.underlying305
 a127:=Tryz.isAgg305
 z127:=Tryz.sizeOf305
 v127:=Tryz.zeroValue305
 t164:=Tryz.underlying336
 a164:=Tryz.isAgg336
 z164:=Tryz.sizeOf336
 v164:=Tryz.zeroValue336 }
end Go.Proofs
namespace Go.Proofs.YtkhakgbnfapifaaGreatDoor
open Go.Sx
theorem Z14r (w:World) (s:List UInt8):Calls Tryz.prog 300 #[.string ⟨s.toArray⟩,.string ⟨#[0]⟩] w fun e w'=>e=.returned (.string ⟨(s.dropWhile fun c=>c == 0).toArray⟩)/\Mod [] w w':=by refine(Z1 (Any.strings_TrimLeft_one Tryz.lays161 ⟨s.toArray⟩ 0 (by decide) w) rfl).mono ?_;rintro e w' ⟨rfl,rfl⟩;exact⟨rfl,Mod.refl _ _⟩
theorem Zvn (s:List UInt8) (c:UInt8):decide (0<=Go.Lib.indexByte s c)=s.any fun b=>b == c:=by rw[<- Go.Lib.contains_iff_indexByte,Bool.eq_iff_iff];simp only[List.contains_iff_mem,List.any_eq_true,beq_iff_eq];exact⟨fun h=>⟨c,h,rfl⟩,fun ⟨x,h,e⟩=>e▸h⟩
theorem Z19h (w:World) (s:List UInt8):Calls Tryz.prog 226 #[.string ⟨s.toArray⟩,.string ⟨#[47]⟩] w fun e w'=>e=.returned (.bool (s.any fun c=>c == 47))/\Mod [] w w':=by refine(Z1 (Any.strings_Contains_one Tryz.lays144 ⟨s.toArray⟩ 47 w) rfl).mono ?_;rintro e w' ⟨rfl,rfl⟩;exact⟨by rw[<- Zvn],Mod.refl _ _⟩
theorem Z125:Builder.Extra Tryz.prog Tryz.lays156_ren where
 sizeBuilder:=by kernel_rfl
 liesBuilder:=by kernel_rfl
 t5:=Tryz.underlying5
 a5:=Tryz.isAgg5
 z5:=Tryz.sizeOf5
 v5:=Tryz.zeroValue5
 infoByte:=by kernel_rfl
 cellsByte:=by kernel_rfl
 sizeByte:=by kernel_rfl
 neB5:=by decide
theorem Zbi:∀ps:List (List UInt8),Go.Lib.join ps [47]=Z5q ps
 | []=>rfl
 | [x]=>Go.Lib.join_one x [47]
 | x::y::r=>by have:=Zbi (y::r);rw[Go.Lib.join_cons]at this ⊢;rw[Z5q,<- this];simp[Go.Lib.joinTail]
theorem Zk7:∀ps:List (List UInt8),(ps.map Z1i).flatten=ps.map fun p=>Value.string ⟨p.toArray⟩
 | []=>rfl
 | p::ps=>by simp only[List.map_cons,List.flatten_cons,Zk7 ps];rfl
theorem Z10f (w:World) (v:Value) (ps:List (List UInt8)) (hv:owns w v 9 [.str] (ps.map Z1i)) (hl:ps.length<=140737488355328) (hb:(Z5q ps).length<=140737488355328) : Calls Tryz.prog 227 #[sc1 v,.string ⟨#[47]⟩] w fun e w'=>e=.returned (.string ⟨(Z5q ps).toArray⟩)/\Mod [] w w':=by
 rw[hv.reads.sc1];obtain⟨hk,hlen,ho⟩:=hv;rcases ho with ⟨rfl,hn⟩|⟨g,c,cur,rfl,-,hg,hnc,hcm,hcs,htk⟩
 ·have:ps=[]:=by simpa using hn
  subst this;refine(Z1 (Any.strings_Join_none Tryz.lays156 Z125 none 0 ⟨#[47]⟩ w) rfl).mono ?_;rintro e w' ⟨rfl,rfl⟩;exact⟨rfl,Mod.refl _ _⟩
 ·have hgs:g<w.heap.size:=by
   have:=(Array.getElem?_eq_some_iff.1 hg).1;exact this
  have e1:(ps.map fun p=>(⟨p.toArray⟩:ByteArray)).map (fun x=>x.data.toList)=ps:=by simp[List.map_map,Function.comp_def]
  have hfl:(ps.map Z1i).flatten=ps.map fun p=>Value.string ⟨p.toArray⟩:=by exact Zk7 ps
  rw[hfl]at htk;have:=Any.strings_Join Tryz.lays156 Z125 g 0 c (ps.map fun p=>(⟨p.toArray⟩:ByteArray)) ⟨#[47]⟩ w (fun j x hj=>?_) hgs (by simpa using hl) (by simpa using hnc) (by rw[e1];show (Go.Lib.join ps [47]).length<=_;rw[Zbi];exact hb)
  ·rw[e1,show (⟨#[47]⟩:ByteArray).data.toList=[47] from rfl,Zbi,qy3]at this;rw[qy3];refine(Z1 this rfl).mono ?_;rintro e w' ⟨rfl,h⟩;exact⟨rfl,Mod.of_below h⟩
  ·rw[List.getElem?_map,Option.map_eq_some_iff]at hj;obtain⟨p,hp,rfl⟩:=hj;have h1:=congrArg (fun l=>l[j]?) htk;simp only[List.getElem?_map,hp,Option.map_some]at h1;rw[List.getElem?_take_of_lt (by have:=(List.getElem?_eq_some_iff.1 hp).1;simpa using this)]at h1;simp only[World.cell?,hg,Nat.zero_add];simpa using h1
theorem Zbj (w:World) (n:Int) (h:0<=n/\n<=16777215):Calls Tryz.prog 243 #[.int .i64 n] w fun e w'=>e=.returned (.string ⟨(Z2b n).toArray⟩)/\Mod [] w w':=by refine Z1 (Z7 (ρ:=[.i n]) sxE_ok Tryz.func243 Zaz rfl rfl rfl ?_) rfl;simp only[Tree.goal,X.P,X.ev,SV.ev,CV.ev,Sc.ev,qz,QA,QC,QL,QM];refine⟨[.s (numB 3 n)],rfl,fun _ w' _=>Z57 w' n 3 (by omega) (by omega) (by omega),?_⟩;simp only[qz,QC,QL,QM];refine⟨[.s (Z2b n)],rfl,fun _ w' _=>Z14r w' _,?_⟩;simp only[qz,QC];exact fun w' hr=>⟨by trivial,hr.mod⟩
theorem Z9l:∀l:List UInt8,(l.dropWhile fun c=>c == 0).length<=l.length
 | []=>Nat.le_refl _
 | c::l=>by have:=Z9l l;rw[List.dropWhile_cons];split<;>simp only[List.length_cons]<;>omega
theorem Zvo (n:Int) (os:List Opt) (i:Nat) (h:i<os.length):Zj n (os.take (i+1))=Zj n (os.take i)++(if (os.getD i oD).1=n then [(os.getD i oD).2] else []):=by
 rw[Z14p os i h,Zoh];generalize os.getD i oD=o
 by_cases h1:o.1=n<;>simp[Zj,h1]
theorem Zol (n:Int) (os:List Opt):(Zj n os).length<=os.length:=by rw[Zj,qy3];exact List.length_filter_le _ _
theorem Zr9 {n:Int} {os:List Opt} {i:Nat} (h:i<os.length) (h1:∀j,j<i->(os.getD j oD).1≠n) (h2:(os.getD i oD).1=n):∃r,Zj n os=(os.getD i oD).2::r:=by
 have e:os=os.take i++os.drop i:=(List.take_append_drop i os).symm;have e0:Zj n (os.take i)=[]:=by refine Zk5 fun o ho=>?_;obtain⟨j,hj,rfl⟩:=List.getElem_of_mem ho;simp only[List.length_take]at hj;have:=h1 j (by omega);rw[qy1,qy7 (by omega)]at this;rw[List.getElem_take];exact this
 have e1:Zj n (os.drop i)=(os.getD i oD).2::Zj n (os.drop (i+1)):=by
  rw[Z14n os i h];generalize os.getD i oD=o at h2
  simp[Zj,h2]
 exact⟨_,by rw[e,Zoh,<- e,e0,e1];rfl⟩
theorem Z10g {n:Int} {os:List Opt} (h:∀j,j<os.length->(os.getD j oD).1≠n):Zj n os=[]:=by refine Zk5 fun o ho=>?_;obtain⟨j,hj,rfl⟩:=List.getElem_of_mem ho;have:=h j hj;rwa [qy1,qy7 hj]at this
theorem Z10h (w:World) (m:Msg) (v:Value) (n:Int) (hv:Z24 w v m.opts) (hl:m.opts.length<1000000000) : Calls Tryz.prog 184 #[mV m (sc1 v),.int .i64 n] w fun e w'=>e=.returned (.tuple #[.int .i64 (Z8v n m.opts).1,.int .i64 (Z8v n m.opts).2])/\Mod [] w w':=by
 refine Z1 (Z4 (ρ:=[.i m.kind,.i m.code,.i m.id,.s m.tok,.v v,.r (m.opts.map encO),.s m.pay,.i n]) sxE_ok Tryz.func184 Z9s rfl rfl (Rel.start2 (by simp[Ent.holds,Ent.wr,hv,X.ev])) rfl rfl ?_) rfl;simp only[Tree.goal,X.P,X.ev,SV.ev,CV.ev,Sc.ev,qz,QA,QC,QD,QH,QJ,QK,QL,QM,Nat.reduceAdd,qy3,Z22,Z23];intro b1 b2;generalize m.opts=os at hl ⊢
 refine⟨fun vs=>∃(x:V) (i:Nat),vs=[x,.i i,.i n]/\i<=os.length/\∀j,j<i->(os.getD j oD).1≠n,fun vs=>(os.length - (vs.getD 1 (.i 0)).toI).toNat,⟨_,0,rfl,by omega,fun j hj=>by omega⟩,?_⟩;rintro _ - ⟨x,i,rfl,hi,hn⟩;simp only[qz,QA,QL,QM,qy4];refine⟨fun h1=>?_,fun h1 w' hr=>⟨?_,hr.mod⟩⟩
 ·(repeat refine⟨by omega,?_⟩)
  intro b3;refine⟨fun h2=>?_,fun h2=>?_⟩
  ·obtain⟨r,e⟩:=Zr9 (by omega) hn h2;have eu:Z8v n os=Zm8 (os.getD i oD).2:=by rw[Z8v,e]
   rw[eu];generalize (os.getD i oD).2=s
   refine⟨fun h3=>by omega,fun _=>⟨fun h3 w' hr=>⟨by rw[Zm8,if_pos h3],hr.mod⟩,fun h3=>⟨fun h4 w' hr=>⟨by subst h4;rfl,hr.mod⟩,fun h4=>?_⟩⟩⟩;have eg:getR s 0 s.length=Zm8 s:=by have:=List.length_pos_iff.2 h4;rw[getR,if_pos (by omega),if_pos (by omega),if_neg (by omega),Zm8,if_neg h3];simp
   refine⟨[.i (Zm8 s).1,.i (Zm8 s).2],rfl,fun _ w' _=>?_,?_⟩
   ·have:=Zhw w' s 0 s.length (by omega);rw[eg]at this;exact this
   ·simp only[qz,QA];exact fun w' hr=>⟨by trivial,hr.mod⟩
  ·(repeat refine⟨by omega,?_⟩)
   refine⟨⟨_,i+1,rfl,by omega,fun j hj=>?_⟩,by omega⟩;by_cases hji:j=i
   ·subst hji;exact h2
   ·exact hn j (by omega)
 ·rw[Z8v,Z10g fun j hj=>hn j (by omega)]
theorem Ze6 (b:Nat):∀(l:List (List UInt8)),(∀x∈l,x.length<=b)->(Z5q l).length<=l.length*(b+1)
 | [],_=>by simp[Z5q]
 | [y],h=>by have:=h y (by simp);simp[Z5q];omega
 | y::z::l,h=>by have h1:=Ze6 b (z::l) fun x hx=>h x (qy10 _ hx);have h2:=h y (by simp);simp only[Z5q,qy11,List.length_cons,Nat.add_mul]at h1 ⊢;omega
theorem Zom:∀{os:List Opt} {was:Int},optE was os=0->∀o∈os,o.2.length<=60
 | [],_,_,o,ho=>by simp at ho
 | x::os,was,h,o,ho=>by
  obtain⟨-,-,h3,h4⟩:=Zk6.1 h;rcases List.mem_cons.1 ho with rfl|ho
  ·exact h3
  ·exact Zom h4 o ho
theorem Z10i {n:Int} {os:List Opt} {x:List UInt8} (h:x∈Zj n os):∃o∈os,o.2=x:=by simp only[Zj,List.mem_map,List.mem_filter]at h;obtain⟨o,⟨h1,-⟩,h2⟩:=h;exact⟨o,h1,h2⟩
theorem Zvp {os:List Opt} (h:Zj 11 os=[]):Z1p os=([],5):=if_pos h
theorem Z10j {os:List Opt} (h:¬Zj 11 os=[]) (h1:¬chkT (Z5q (Zj 11 os)) false=0):Z1p os=([],chkT (Z5q (Zj 11 os)) false):=by rw[Z1p,if_neg h,if_neg h1]
theorem Zvq {os:List Opt} (h:¬Zj 11 os=[]) (h1:chkT (Z5q (Zj 11 os)) false=0) (h2:(Zj 11 os).any (fun v=>v.any fun c=>c == 47)=true):Z1p os=([],1):=by rw[Z1p,if_neg h,if_pos h1,if_pos h2]
theorem Zvr {os:List Opt} (h:¬Zj 11 os=[]) (h1:chkT (Z5q (Zj 11 os)) false=0) (h2:¬(Zj 11 os).any (fun v=>v.any fun c=>c == 47)=true):Z1p os=(Z5q (Zj 11 os),0):=by rw[Z1p,if_neg h,if_pos h1,if_neg h2]
theorem Z10k (w:World) (m:Msg) (v:Value) (hv:Z24 w v m.opts) (hc:chk m=0) : Calls Tryz.prog 169 #[mV m (sc1 v)] w fun e w'=>e=.returned (.tuple #[.string ⟨(Z1p m.opts).1.toArray⟩,.int .i64 (Z1p m.opts).2])/\Mod [] w w':=by
 obtain⟨-,-,hl,ho,-⟩:=Z79.1 hc;refine Z1 (Z4 (ρ:=[.i m.kind,.i m.code,.i m.id,.s m.tok,.v v,.r (m.opts.map encO),.s m.pay]) sxE_ok Tryz.func169 Z9o rfl rfl (Rel.start2 (by simp[Ent.holds,Ent.wr,hv,X.ev])) rfl rfl ?_) rfl;simp only[Tree.goal,X.P,X.ev,SV.ev,CV.ev,Sc.ev,qz,QA,QC,QD,QG,QH,QJ,QK,QL,QM,Nat.reduceAdd,qy3,Z22,Z23];intro b1;replace hl:=hl.2.1;generalize m.opts=os at hl ho ⊢
 have hvl:=Zol 11 os;have hul:(Z5q (Zj 11 os)).length<=12*61:=Nat.le_trans (Ze6 60 _ fun x hx=>by obtain⟨o,h1,rfl⟩:=Z10i hx;exact Zom ho o h1) (by omega);refine⟨fun vs=>∃(s:Value) (i:Nat),vs=[.v s,.r ((Zj 11 (os.take i)).map Z1i),.b ((Zj 11 (os.take i)).any fun v=>v.any fun c=>c == 47),.i i]/\i<=os.length,fun vs=>(os.length - (vs.getD 3 (.i 0)).toI).toNat,⟨_,0,rfl,by omega⟩,?_⟩;rintro _ - ⟨s,i,rfl,hi⟩;simp only[qz,QA,QB,QD,QE,QL,QM,qy3,qy4];refine⟨fun h1=>?_,fun h1=>?_⟩
 ·have hs:=Zvo 11 os i (by omega);have hvi:=Zol 11 (os.take i);rw[List.length_take]at hvi
  (repeat refine⟨by omega,?_⟩)
  intro b2;refine⟨fun h2 v1=>⟨by simp;omega,fun v2=>?_⟩,fun h2=>?_⟩
  ·rw[if_pos h2]at hs;refine⟨[.b ((os.getD i oD).2.any fun c=>c == 47)],rfl,fun _ w' _=>Z19h w' _,?_⟩;simp only[qz,QB];refine⟨by omega,by omega,⟨v2,i+1,?_,by omega⟩,by omega⟩;rw[hs];simp[Z1i]
  ·rw[if_neg h2,List.append_nil]at hs
   (repeat refine⟨by omega,?_⟩)
   exact⟨⟨s,i+1,by rw[hs];rfl,by omega⟩,by omega⟩
 ·have:i=os.length:=by omega
  subst this;rw[List.take_length];refine⟨fun h2 w' hr=>⟨?_,hr.mod⟩,fun h2=>?_⟩
  ·rw[Zvp (List.length_eq_zero_iff.1 (by omega))]
  have h2:¬Zj 11 os=[]:=fun h=>h2 (by rw[h];rfl);refine⟨[.s (Z5q (Zj 11 os))],rfl,fun _ w' hr=>Z10f w' s _ (hr.at_ 0 rfl) (by omega) (by omega),?_⟩;simp only[qz,QC,QL,QM];refine⟨[.i (chkT (Z5q (Zj 11 os)) false)],rfl,fun _ w' hr=>Zjk w' _ (by omega),?_⟩;simp only[qz,QA];refine⟨fun h3=>⟨fun _ w' hr=>⟨?_,hr.mod⟩,fun h=>(h (by decide)).elim⟩,fun h3=>⟨fun h4 w' hr=>⟨?_,hr.mod⟩,fun h4 w' hr=>⟨?_,hr.mod⟩⟩⟩
  ·rw[Zvq h2 h3.1 h3.2]
  ·rw[Z10j h2 h4]
  ·have h4:=qy9.1 h4;rw[Zvr h2 h4 fun h=>h3 ⟨h4,h⟩]
def Zc0 (n:Nat) (v:Value) (os:List Opt):Prop:=∀k,(os.map encO).flatten≠[]/\Z2 v k->n<=k
theorem Zc0.mono {n m:Nat} {v:Value} {os:List Opt} (h:Zc0 n v os) (hm:m<=n):Zc0 m v os:=fun k hk=>Nat.le_trans hm (h k hk)
theorem Zra (n:Nat) (v:Value):Zc0 n v []:=fun k hk=>absurd rfl hk.1
theorem Zae (w:World) (m n:Msg) (u v:Value) (hu:Z24 w u m.opts) (hv:Z24 w v n.opts) (hl:m.opts.length<1099511627776):Calls Tryz.prog 117 #[mV m (sc1 u),mV n (sc1 v)] w fun e w'=>e=.returned (.bool (decide (m.kind=n.kind/\m.code=n.code/\m.id=n.id/\m.tok=n.tok/\m.pay=n.pay/\m.opts=n.opts)))/\Mod [] w w':=by
 refine Z1 (Z4 (ρ:=[.i m.kind,.i m.code,.i m.id,.s m.tok,.v u,.r (m.opts.map encO),.s m.pay,.i n.kind,.i n.code,.i n.id,.s n.tok,.v v,.r (n.opts.map encO),.s n.pay]) sxE_ok Tryz.func117 Z3v rfl rfl (Rel.start2 (by simp[Ent.holds,Ent.wr,hu,hv,X.ev])) rfl rfl ?_) rfl;simp only[Tree.goal,X.P,X.ev,SV.ev,CV.ev,Sc.ev,qz,QA,QB,QC,QD,QH,QJ,QK,QL,QM,Nat.reduceAdd,qy3];intro b1 b2;refine⟨fun h w' hr=>⟨?_,hr.mod⟩,fun h=>?_⟩
 ·rw[decide_eq_false];rintro⟨h1,h2,h3,h4,h5,h6⟩;rcases h with ((((h|h)|h)|h)|h)|h
  ·exact h h1
  ·exact h h2
  ·exact h h3
  ·exact h h4
  ·exact h h5
  ·exact h (by rw[h6])
 ·simp only[not_or,qy9]at h;obtain⟨⟨⟨⟨⟨h1,h2⟩,h3⟩,h4⟩,h5⟩,h6⟩:=h;have hlen:m.opts.length=n.opts.length:=by omega
  refine⟨fun vs=>∃(i:Nat) (x:V),vs=[x,.i i]/\i<=m.opts.length/\∀j,j<i->m.opts.getD j oD=n.opts.getD j oD,fun vs=>(m.opts.length - (vs.getD 1 (.i 0)).toI).toNat,⟨0,_,rfl,by omega,fun j hj=>by omega⟩,?_⟩;rintro _ - ⟨i,x,rfl,hi,hall⟩;simp only[qz,QA,qy4,Z22,Z23];refine⟨fun h7=>⟨by omega,by omega,fun h8 w' hr=>⟨?_,hr.mod⟩,fun h8=>⟨by omega,by omega,⟨i+1,x,rfl,by omega,fun j hj=>?_⟩,by omega⟩⟩,fun h7 w' hr=>⟨?_,hr.mod⟩⟩
  ·rw[decide_eq_false];rintro⟨-,-,-,-,-,h9⟩;rw[h9]at h8;exact h8 ⟨rfl,rfl⟩
  ·by_cases hji:j=i
   ·subst hji;have:=qy9.1 h8;exact Prod.ext this.1 this.2
   ·exact hall j (by omega)
  ·rw[decide_eq_true];refine⟨h1,h2,h3,h4,h5,List.ext_getElem? fun j=>?_⟩;by_cases hj:j<m.opts.length
   ·have:=hall j (by omega);rw[qy1,qy1,qy7 hj,qy7 (by omega)]at this;rw[qy7 hj,qy7 (by omega)];simpa using this
   ·rw[List.getElem?_eq_none (by omega),List.getElem?_eq_none (by omega)]
def mGet:Msg:=⟨0,1,258,[116],[(6,[]),(11,[97]),(11,[98])],[]⟩
theorem Zi4 (w:World):Calls Tryz.prog 64 #[] w fun e w'=>∃v,e=.returned (mV mGet (sc1 v))/\Z24 w' v mGet.opts/\Zc0 w.heap.size v mGet.opts/\Mod [] w w':=by
 refine Z1 (Z7 (ρ:=[]) sxE_ok Tryz.func64 Z7z rfl rfl rfl ?_) rfl;simp only[Tree.goal,X.ev,SV.ev,CV.ev,Sc.ev,qz,QA,QC,QE,QL,QM];intro b v w' hr;refine⟨v,rfl,owns.reads (hr.at_ 0 rfl),fun k hk=>?_,hr.mod⟩;rcases hr.own _ (qy8 ..) rfl k hk.2 with h|h
 ·exact h
 ·simp at h
theorem Z5r {ρ:List V} {es:List Ent} (h:∀e∈es,e.wr=false):Zn ρ es:=by refine List.pairwise_iff_forall_sublist.2 fun {a b} hs hw=>?_;have h1:=h a (hs.subset (by simp));have h2:=h b (hs.subset (by simp));rw[h1,h2]at hw;simp at hw
section
variable (w:World) (p:Pkt) (u v:Value) (hu:Z36 w u p.asks) (hv:Z2h w v p.codes) (hs:SmallP p)
include hu hv
theorem Z14s:Calls Tryz.prog 121 #[pV p u v] w fun e w'=>∃x y,e=.returned (pV (Z1r p) x y)/\Z36 w' x (Z1r p).asks/\Z2h w' y (Z1r p).codes /\ (x=u/\(Z1r p).asks=p.asks\/(Z1r p).asks=[])/\(y=v/\(Z1r p).codes=p.codes\/(Z1r p).codes=[])/\Mod [] w w':=by
 refine Z1 (Z4 (ρ:=[.i p.kind,.b p.dup,.b p.retain,.b p.clean,.b p.session,.i p.qos,.i p.id,.i p.keep,.i p.code,.s p.client,.s p.topic,.s p.payload,.v u,.r (p.asks.map encA),.v v,.r (p.codes.map Zg)]) sxE_ok Tryz.func121 Zcd rfl rfl (Rel.start2 (by simp[Ent.holds,Ent.wr,hu,hv,X.ev])) rfl rfl ?_) rfl;simp only[Tree.goal,X.P,X.ev,SV.ev,CV.ev,Sc.ev,qz,QA,QB,QC,QE,QL,QM];intro b1 b2;have g4:∀q:Pkt,q.kind=p.kind->p.kind≠1->p.kind≠2->p.kind≠3->(p.kind=4\/p.kind=11)->Z1r p={ p with id:=0 }:=fun q _ h1 h2 h3 h=>by rw[Z1r,if_neg h1,if_neg h2,if_neg h3,if_pos h]
 have g8:p.kind≠1->p.kind≠2->p.kind≠3->¬(p.kind=4\/p.kind=11)->(p.kind=8\/p.kind=10)->Z1r p={ p with id:=0,asks:=[] }:=fun h1 h2 h3 h4 h=>by rw[Z1r,if_neg h1,if_neg h2,if_neg h3,if_neg h4,if_pos h]
 refine⟨fun h1 w' hr=>?_,fun h1=>⟨fun h2 w' hr=>?_,fun h2=>⟨fun h3 w' hr=>?_,fun h3=>⟨fun h4 w' hr=>?_,fun h4=>⟨fun h5 w' hr=>?_,fun h5=>⟨fun h6 w' hr=>?_,fun h6=>⟨fun h7 w' hr=>?_,fun h7=>⟨fun h8 w' hr=>?_,fun h8 w' hr=>?_⟩⟩⟩⟩⟩⟩⟩⟩
 ·have e:Z1r p={ p with client:=[],clean:=false,keep:=0 }:=by rw[Z1r,if_pos h1]
  rw[e];exact⟨u,v,rfl,hr.at_ 2 rfl,hr.at_ 3 rfl,.inl ⟨rfl,rfl⟩,.inl ⟨rfl,rfl⟩,hr.mod⟩
 ·have e:Z1r p={ p with code:=0,session:=false }:=by rw[Z1r,if_neg h1,if_pos h2]
  rw[e];exact⟨u,v,rfl,hr.at_ 2 rfl,hr.at_ 3 rfl,.inl ⟨rfl,rfl⟩,.inl ⟨rfl,rfl⟩,hr.mod⟩
 ·have e:Z1r p={ p with dup:=false,qos:=0,retain:=false,topic:=[],payload:=[],id:=0 }:=by rw[Z1r,if_neg h1,if_neg h2,if_pos h3]
  rw[e];exact⟨u,v,rfl,hr.at_ 2 rfl,hr.at_ 3 rfl,.inl ⟨rfl,rfl⟩,.inl ⟨rfl,rfl⟩,hr.mod⟩
 ·rw[g4 p rfl h1 h2 h3 (.inl h4)];exact⟨u,v,rfl,hr.at_ 2 rfl,hr.at_ 3 rfl,.inl ⟨rfl,rfl⟩,.inl ⟨rfl,rfl⟩,hr.mod⟩
 ·rw[g4 p rfl h1 h2 h3 (.inr h5)];exact⟨u,v,rfl,hr.at_ 2 rfl,hr.at_ 3 rfl,.inl ⟨rfl,rfl⟩,.inl ⟨rfl,rfl⟩,hr.mod⟩
 ·rw[g8 h1 h2 h3 (by omega) (.inl h6)];exact⟨.slice none 0 0,v,rfl,Z29 _,hr.at_ 3 rfl,.inr rfl,.inl ⟨rfl,rfl⟩,hr.mod⟩
 ·rw[g8 h1 h2 h3 (by omega) (.inr h7)];exact⟨.slice none 0 0,v,rfl,Z29 _,hr.at_ 3 rfl,.inr rfl,.inl ⟨rfl,rfl⟩,hr.mod⟩
 ·have e:Z1r p={ p with id:=0,codes:=[] }:=by rw[Z1r,if_neg h1,if_neg h2,if_neg h3,if_neg (by omega),if_neg (by omega),if_pos h8]
  rw[e];exact⟨u,.slice none 0 0,rfl,hr.at_ 2 rfl,Z2t _,.inl ⟨rfl,rfl⟩,.inr rfl,hr.mod⟩
 ·have e:Z1r p=p:=by rw[Z1r,if_neg h1,if_neg h2,if_neg h3,if_neg (by omega),if_neg (by omega),if_neg h8]
  rw[e];exact⟨u,v,rfl,hr.at_ 2 rfl,hr.at_ 3 rfl,.inl ⟨rfl,rfl⟩,.inl ⟨rfl,rfl⟩,hr.mod⟩
include hs
theorem Zcw:Calls Tryz.prog 125 #[pV p u v] w fun e w'=>e=.returned (.int .i64 (Z21 p))/\Mod [] w w':=by
 refine Z1 (Z4 (ρ:=[.i p.kind,.b p.dup,.b p.retain,.b p.clean,.b p.session,.i p.qos,.i p.id,.i p.keep,.i p.code,.s p.client,.s p.topic,.s p.payload,.v u,.r (p.asks.map encA),.v v,.r (p.codes.map Zg)]) sxE_ok Tryz.func125 Zb7 rfl rfl (Rel.start2 (by simp[Ent.holds,Ent.wr,hu,hv,X.ev])) rfl rfl ?_) rfl;simp only[Tree.goal,X.P,X.ev,SV.ev,CV.ev,Sc.ev,qz,QA,QB,QC,QE,QL,QM];intro b;refine⟨fun h1=>?_,fun h1=>⟨fun h2=>?_,fun h2=>⟨fun h3=>?_,fun h3=>⟨fun h4=>?_,fun h4=>⟨fun h5=>?_,fun h5=>⟨fun h6=>?_,fun h6 w' hr=>⟨?_,hr.mod⟩⟩⟩⟩⟩⟩⟩
 ·refine⟨[.i (Zjz p)],rfl,fun _ w' hr=>Zqz w' p u v (hr.at_ 1 rfl) (hr.at_ 2 rfl) hs,?_⟩;simp only[qz,QA];exact fun w' hr=>⟨by rw[Z21,if_pos h1],hr.mod⟩
 ·refine⟨[.i (Z6a p)],rfl,fun _ w' hr=>Zqy w' p u v (hr.at_ 1 rfl) (hr.at_ 2 rfl),?_⟩;simp only[qz,QA];exact fun w' hr=>⟨by rw[Z21,if_neg h1,if_pos h2],hr.mod⟩
 ·refine⟨[.i (pubE p)],rfl,fun _ w' hr=>Zgh w' p u v (hr.at_ 1 rfl) (hr.at_ 2 rfl) hs,?_⟩;simp only[qz,QA];exact fun w' hr=>⟨by rw[Z21,if_neg h1,if_neg h2,if_pos h3],hr.mod⟩
 ·refine⟨[.i (Zhz p)],rfl,fun _ w' hr=>Zv6 w' p u v (hr.at_ 1 rfl) (hr.at_ 2 rfl) hs,?_⟩;simp only[qz,QA];exact fun w' hr=>⟨by rw[Z21,if_neg h1,if_neg h2,if_neg h3,if_pos (.inl h4)],hr.mod⟩
 ·refine⟨[.i (Zhz p)],rfl,fun _ w' hr=>Zv6 w' p u v (hr.at_ 1 rfl) (hr.at_ 2 rfl) hs,?_⟩;simp only[qz,QA];exact fun w' hr=>⟨by rw[Z21,if_neg h1,if_neg h2,if_neg h3,if_pos (.inr h5)],hr.mod⟩
 ·refine⟨[.i (Zby p)],rfl,fun _ w' hr=>Z101 w' p u v (hr.at_ 1 rfl) (hr.at_ 2 rfl) hs,?_⟩;simp only[qz,QA];exact fun w' hr=>⟨by rw[Z21,if_neg h1,if_neg h2,if_neg h3,if_neg (by omega),if_pos h6],hr.mod⟩
 ·rw[Z21,if_neg h1,if_neg h2,if_neg h3,if_neg (by omega),if_neg h6]
theorem Z7r:Calls Tryz.prog 34 #[pV p u v] w fun e w'=>e=.returned (.int .i64 (chkP p))/\Mod [] w w':=by
 refine Z1 (Z4 (ρ:=[.i p.kind,.b p.dup,.b p.retain,.b p.clean,.b p.session,.i p.qos,.i p.id,.i p.keep,.i p.code,.s p.client,.s p.topic,.s p.payload,.v u,.r (p.asks.map encA),.v v,.r (p.codes.map Zg)]) sxE_ok Tryz.func34 Zbb rfl rfl (Rel.start2 (by simp[Ent.holds,Ent.wr,hu,hv,X.ev])) rfl rfl ?_) rfl;simp only[Tree.goal,X.P,X.ev,SV.ev,CV.ev,Sc.ev,qz,QA,QB,QC,QE,QL,QM];intro b;refine⟨[.b (Z58 p.kind)],rfl,fun _ w' _=>Zm3 w' _,?_⟩;simp only[qz,QB,QL,QM];refine⟨fun h w' hr=>⟨by rw[chkP,if_neg h],hr.mod⟩,fun h=>?_⟩;have h:=qy9.1 h;rw[chkP,if_pos h];intro w1 hr;refine(Z14s w1 p u v (hr.at_ 1 rfl) (hr.at_ 2 rfl)).mono ?_;rintro e w2 ⟨x,y,rfl,rx,ry,ex,ey,m2⟩;generalize hq:Z1r p=q at rx ry ex ey ⊢
 have hsq:SmallP q:=by rw[<- hq];exact hs.bare
 refine⟨[.i q.kind,.b q.dup,.b q.retain,.b q.clean,.b q.session,.i q.qos,.i q.id,.i q.keep,.i q.code,.s q.client,.s q.topic,.s q.payload,.v x,.r (q.asks.map encA),.v y,.r (q.codes.map Zg)],rfl,rfl,m2,qy5 _,qy2.2 ⟨⟨rx,fun k hk=>.inr (.inl ⟨rfl,?_⟩)⟩,qy2.2 ⟨⟨ry,fun k hk=>.inr (.inl ⟨rfl,?_⟩)⟩,qy5 _⟩⟩,Z5r (by simp[Ent.wr]),?_⟩
 ·rcases ex with ⟨rfl,e1⟩|e1
  ·refine⟨_,qy10 _ (qy8 ..),rfl,?_⟩;simp only[Ent.fp,X.ev,qz,QD,QE]at hk ⊢;rw[e1]at hk;exact hk
  ·simp only[Ent.fp,X.ev,qz,QD,QE,e1]at hk;exact absurd rfl hk.1
 ·rcases ey with ⟨rfl,e1⟩|e1
  ·refine⟨_,qy10 _ (qy10 _ (qy8 ..)),rfl,?_⟩;simp only[Ent.fp,X.ev,qz,QD,QE]at hk ⊢;rw[e1]at hk;exact hk
  ·simp only[Ent.fp,X.ev,qz,QD,QE,e1]at hk;exact absurd rfl hk.1
 simp only[qz,QA,QB,QC,QE,QL,QM];refine⟨[.b (Z89 q)],rfl,fun _ w' hr=>Z100 w' q x y (hr.at_ 0 rfl) (hr.at_ 1 rfl) hsq,?_⟩;simp only[qz,QB,QL,QM];refine⟨fun h w' hr=>⟨by rw[if_neg h],hr.mod⟩,fun h=>?_⟩;have h:=qy9.1 h;rw[if_pos h];refine⟨fun h1=>?_,fun h1=>?_⟩
 ·refine⟨[.i (pubE p)],rfl,fun _ w' hr=>Zgh w' p u v (hr.at_ 3 rfl) (hr.at_ 4 rfl) hs,?_⟩;simp only[qz,QA,QL,QM];refine⟨fun h2 w' hr=>⟨by rw[if_pos ⟨h1,h2⟩],hr.mod⟩,fun h2=>?_⟩;have hn:¬(p.kind=3/\pubE p≠0):=fun hh=>h2 hh.2;refine⟨[.b (idB p)],rfl,fun _ w' hr=>Zzz w' p u v (hr.at_ 3 rfl) (hr.at_ 4 rfl),?_⟩;simp only[qz,QB,QL,QM];refine⟨fun h3=>⟨fun h4 w' hr=>⟨?_,hr.mod⟩,fun h4=>?_⟩,fun h3=>?_⟩;(· rw[if_neg (by assumption),if_pos ⟨h3,h4⟩]);(· rw[if_neg (by assumption),if_neg (fun hh=>h4 hh.2)];refine⟨[.i (Z21 p)],rfl,fun _ w' hr=>Zcw w' p u v (hr.at_ 3 rfl) (hr.at_ 4 rfl) hs,?_⟩;simp only[qz,QA];exact fun w' hr=>⟨by trivial,hr.mod⟩);(· rw[if_neg (by assumption),if_neg (fun hh=>h3 hh.1)];refine⟨[.i (Z21 p)],rfl,fun _ w' hr=>Zcw w' p u v (hr.at_ 3 rfl) (hr.at_ 4 rfl) hs,?_⟩;simp only[qz,QA];exact fun w' hr=>⟨by trivial,hr.mod⟩)
 ·have hn:¬(p.kind=3/\pubE p≠0):=fun hh=>h1 hh.1;refine⟨[.b (idB p)],rfl,fun _ w' hr=>Zzz w' p u v (hr.at_ 3 rfl) (hr.at_ 4 rfl),?_⟩;simp only[qz,QB,QL,QM];refine⟨fun h3=>⟨fun h4 w' hr=>⟨?_,hr.mod⟩,fun h4=>?_⟩,fun h3=>?_⟩;(· rw[if_neg (by assumption),if_pos ⟨h3,h4⟩]);(· rw[if_neg (by assumption),if_neg (fun hh=>h4 hh.2)];refine⟨[.i (Z21 p)],rfl,fun _ w' hr=>Zcw w' p u v (hr.at_ 3 rfl) (hr.at_ 4 rfl) hs,?_⟩;simp only[qz,QA];exact fun w' hr=>⟨by trivial,hr.mod⟩);(· rw[if_neg (by assumption),if_neg (fun hh=>h3 hh.1)];refine⟨[.i (Z21 p)],rfl,fun _ w' hr=>Zcw w' p u v (hr.at_ 3 rfl) (hr.at_ 4 rfl) hs,?_⟩;simp only[qz,QA];exact fun w' hr=>⟨by trivial,hr.mod⟩)
end
end Go.Proofs.YtkhakgbnfapifaaGreatDoor
namespace Go.Proofs.YtkhakgbnfapifaaGreatDoor
open Go.Sx Go.RowKit
theorem Zvs:(Tryz.prog.info? 260).map (·.size)=some 2:=by kernel_rfl
theorem Z14t:(Tryz.prog.info? 5).map (fun i=>(i.zero,i.size,i.bytes))=some (some (.int .u8 0),1,1):=by kernel_rfl
noncomputable def Z14u (ty n:Nat):Bool:=liesAt Tryz.prog Tryz.prog.depth ty (n / Tryz.prog.cellsOf ty) 0 260 1
set_option maxRecDepth 100000 in
theorem Zaf (b:Nat) (w:World) (h0:w.cell? ⟨b,0,none⟩=some (.pointer (some ⟨b,0,none⟩))) : Calls Tryz.prog 317 #[.pointer (some ⟨b,0,none⟩)] w fun e w'=>e=.returned (.tuple #[])/\w'=w:=by
  obtain⟨j,hj,_⟩:=Option.map_eq_some_iff.1 Zvs;go_enter Tryz.func317,Tryz.ntmps317
  go_wp2
  rw[Lib.run_neq_ptr_same w _ Tryz.underlying258 hj];go_wp2
  go_end0
  exact⟨rfl,rfl⟩
set_option maxRecDepth 100000 in
theorem Z8w (ty n b:Nat) (w:World) (hT:Z14u ty n=true) (hn:0<n) (h0:w.cell? ⟨b,0,none⟩=some (.pointer none)) (hsh:w.shape? b=some (ty,n)) (hfz:w.frozen? ⟨b,0,none⟩=false) : Calls Tryz.prog 317 #[.pointer (some ⟨b,0,none⟩)] w fun e w'=>e=.returned (.tuple #[])/\w'=w.setCell ⟨b,0,none⟩ (.pointer (some ⟨b,0,none⟩)):=by
  obtain⟨j,hj,hjs⟩:=Option.map_eq_some_iff.1 Zvs;go_enter Tryz.func317,Tryz.ntmps317
  go_wp2
  rw[Lib.run_to_unsafe w ⟨b,0,none⟩ Tryz.underlying258 Tryz.underlying336 hj (by rw[hjs];decide) hsh hn];simp only[Result.andThen];rw[Oper.upon_value];go_wp2
  rw[run_callFunc_extern Tryz.func344 (by kernel_rfl) (by kernel_rfl) (by kernel_rfl) (e:=Extern.AbiNoEscape.same) (by kernel_rfl)];rw[Lib.run_noEscape];simp only[Result.andThen];rw[Oper.upon_value];go_wp2
  rw[Lib.run_from_unsafe w ⟨b,0,none⟩ Tryz.underlying336 Tryz.underlying258 hj hsh hT];simp only[Result.andThen];rw[Oper.upon_value];go_wp2
  go_end0
  exact⟨rfl,rfl⟩
theorem Z10l:∃i0,Tryz.prog.info? 5=some i0/\i0.zero=some (.int .u8 0)/\i0.size=1/\i0.bytes=1:=by obtain⟨i0,hi,h⟩:=Option.map_eq_some_iff.1 Z14t;simp only[Prod.mk.injEq]at h;exact⟨i0,hi,h.1,h.2.1,h.2.2⟩
theorem Z2m {w:World} {b ty:Nat} {cs:List Value} (h:w.heap[b]?=some (.cells cs.toArray ty (0,0))) (j:Nat):w.cell? ⟨b,j,none⟩=cs[j]?:=by rw[Lib.cell_of_heap h];simp
theorem Zon (s:List UInt8):(s.map fun b=>[Value.int .u8 (b.toNat:Int)]).flatten=Lib.strCells ⟨s.toArray⟩:=by simp[Lib.strCells];induction s<;>simp_all
theorem Zvt (s:List UInt8):∀r∈s.map fun b=>[Value.int .u8 (b.toNat:Int)],rowOk [.int .u8] r:=by intro r hr;obtain⟨b,-,rfl⟩:=List.mem_map.1 hr;exact⟨⟨_,rfl⟩,trivial⟩
section
variable {P:Program} {w:World}
theorem Zrb (t u ty e:TypeId) (i:TypeInfo) (ht:P.underlying t=some (.slice e)) (hu:P.underlying u=some .string) (hi:P.info? e=some i) (hz:i.zero=some (.int .u8 0)) (hsize:i.size=1) (hby:i.bytes=1) (v:Value) (n:Nat) (xs:List Value) (hown:w.ownsRow 0 e 1 v n xs) (s:ByteArray) (hb:n+s.size<=140737488355328) : ∃v' w',(Builtin.append_ #[t,u] ty #[v,.string s]).run P w=.ok v' w'/\w'.ownsRow 0 e 1 v' (n+s.size) (xs++Lib.strCells s)/\w.grownBy w' v.ownBlock /\ ∀k,v'.ownBlock=some k->v.ownBlock=some k\/w.heap.size<=k:=by
  have h63:n+s.size<=maxLen:=by unfold maxLen;omega
  obtain⟨v',w',h1,h2,h3,-⟩:=Lib.run_append_own_string (P:=P) (w:=w) 0 t u ty e i ht hu hi hz hsize hby v n xs hown s h63 hb (Nat.zero_le _);refine⟨v',w',h1,h2,h3,fun k hk=>?_⟩;have hxl:xs.length=n:=by simpa using hown.1
  rcases hown.2 with ⟨rfl,rfl⟩|⟨g,cap,cur,rfl,hbg,hg,hnc,hcm,hcs,htake⟩
  . have hx:xs=[]:=List.eq_nil_of_length_eq_zero hxl;subst hx;obtain⟨v2,w2,k1,k2,k3,-⟩:=Lib.run_append_own_string (P:=P) (w:=w) w.heap.size t u ty e i ht hu hi hz hsize hby (.slice none 0 0) 0 [] (World.ownsRow_nil _ _ _ _) s h63 hb (Nat.le_refl _);rw[h1]at k1;simp only[Result.ok.injEq]at k1;obtain⟨rfl,rfl⟩:=k1;exact .inr (k2.lt k hk).1
  . by_cases hroom:n+s.size<=cap
    . have hr:=Lib.run_append_room_string (P:=P) w t u ty e i ht hu hi hsize g n cap cur hg s hroom (by unfold maxLen at h63;omega);rw[h1]at hr;simp only[Result.ok.injEq]at hr;obtain⟨rfl,-⟩:=hr;exact .inl hk
    . have holds:∀j u,xs[j]?=some u->w.cell? ((⟨g,0,none⟩:Addr).add j)=some u:=hown.cells (g:=g) rfl;have hr:=Lib.run_append_grow_string (P:=P) w t u ty e i (.int .u8 0) ht hu hi hz ⟨g,0,none⟩ n cap xs (by rw[hsize];simpa using hxl) holds s (by omega) (by unfold maxLen at h63;omega) (by rw[hby];exact growslice_fits (by omega) (by omega));rw[h1]at hr;simp only[Result.ok.injEq]at hr;obtain⟨rfl,-⟩:=hr;simp[Value.ownBlock]at hk;exact .inr (by omega)
theorem Zbk {ops:Array Oper} {rest:List Oper} {o:Oper} {a:Act} {Q:Exit->Act->World->Prop} (hgd:o.guard=none) (sl x:Operand) (t u:TypeId) (ho:o.op=.call { callee:=.builtin .append,args:=#[sl,x],argTypes:=#[t,u] })
    (e:TypeId) (i:TypeInfo) (ht:P.underlying t=some (.slice e)) (hu:P.underlying u=some .string) (hi:P.info? e=some i) (hz:i.zero=some (.int .u8 0))
    (hsize:i.size=1) (hby:i.bytes=1) (v:Value) (n:Nat) (xs:List Value) (hs:a.eval sl=v) (hown:w.ownsRow 0 e 1 v n xs) (s:ByteArray) (hx:a.eval x=.string s) (hb:n+s.size<=140737488355328)
    (h:∀v' w',w'.ownsRow 0 e 1 v' (n+s.size) (xs++Lib.strCells s)->w.grownBy w' v.ownBlock->(∀k,v'.ownBlock=some k->v.ownBlock=some k\/w.heap.size<=k)->wpList P ops Q rest (a.put o.dst v') w') :
    wpList P ops Q (o::rest) a w:=by
  refine wpList_plain hgd fun K hK=>?_;obtain⟨v',w',hr,h2,h3,h4⟩:=Zrb (P:=P) (w:=w) t u o.type e i ht hu hi hz hsize hby v n xs hown s hb;unfold Oper.wp execOp;simp only[ho,resolve,invoke,builtin,Sem.run_bind,Sem.run_pure,Result.andThen_ok,List.map_toArray,List.map_cons,List.map_nil,hs,hx,hr];exact hK _ _ (h v' w' h2 h3 h4)
end
set_option maxRecDepth 100000 in
theorem Ze7 (ty b:Nat) (p v:Value) (rest:List Value) (rows:List (List Value)) (s:List UInt8) (w:World) (hT:Z14u ty (rest.length+2)=true) (hty:ty≠5) (hb:w.heap[b]?=some (.cells (p::v::rest).toArray ty (0,0))) (hp:p=.pointer none\/p=.pointer (some ⟨b,0,none⟩)) (hown:owns w v 5 [.int .u8] rows) (hlen:rows.length+s.length<=140737488355328) : Calls Tryz.prog 283 #[.pointer (some ⟨b,0,none⟩),.string ⟨s.toArray⟩] w fun e w'=>e=.returned (.tuple #[.int .i64 s.length,.nilIface]) /\ ∃v',w'.heap[b]?=some (.cells (.pointer (some ⟨b,0,none⟩)::v'::rest).toArray ty (0,0))/\owns w' v' 5 [.int .u8] (rows++s.map fun b=>[Value.int .u8 (b.toNat:Int)]) /\ Mod (b::v.ownBlock.toList) w w'/\∀k,Z2 v' k->w.heap.size<=k\/k∈v.ownBlock.toList:=by
  obtain⟨i0,hi,hz0,hz1,hz2⟩:=Z10l;have hne:∀k,v.ownBlock=some k->k≠b:=fun k hk e=>by
    subst e;rcases hown.2.2 with ⟨hv,-⟩|⟨g,cap,cur,hv,-,hg,-⟩
    . rw[hv]at hk;cases hk
    . rw[hv]at hk;simp[Value.ownBlock]at hk;subst hk;rw[hb]at hg;simp at hg;exact hty hg.2
  have hlt:b<w.heap.size:=(Array.getElem?_eq_some_iff.1 hb).1;have hchk:Calls Tryz.prog 317 #[.pointer (some ⟨b,0,none⟩)] w fun e w'=>e=.returned (.tuple #[])/\w'.heap[b]?=some (.cells (.pointer (some ⟨b,0,none⟩)::v::rest).toArray ty (0,0))/\Mod [b] w w':=by
    rcases hp with rfl|rfl
    . refine(Z8w ty (rest.length+2) b w hT (by omega) (Z2m hb 0) (by simp[World.shape?,hb]) (Lib.frozen_of_heap hb 0)).mono ?_;rintro e w' ⟨rfl,rfl⟩;refine⟨rfl,?_,Mod.setCell _ _ _ (.inl (by simp))⟩;simp[World.setCell,Array.getElem?_modify,hb]
    . refine(Zaf b w (Z2m hb 0)).mono ?_;rintro e w' ⟨rfl,rfl⟩;exact⟨rfl,hb,Mod.refl _ _⟩
  have e240:∀args w,(callFunc 317 args).run Tryz.prog w=.ok (.enter 317 args) w:=enters_of Tryz.func317 (by kernel_rfl) rfl;go_enter Tryz.func283,Tryz.ntmps283
  go_wp2_with (go_at_fn 317;refine hchk.mono ?_)
  rintro e w1 ⟨rfl,hbk,hm1⟩;have hown1:owns w1 v 5 [.int .u8] rows:=owns.stable hown fun k hk=>hm1.block k (hown.2.lt k hk).2 (by simpa using hne k hk);have c0:w1.cell? ⟨b,0,none⟩=some (.pointer (some ⟨b,0,none⟩)):=Z2m hbk 0;have c1:w1.cell? ⟨b,1,none⟩=some v:=Z2m hbk 1;have ho1:=hown1.2;have hfl:rows.flatten.length=rows.length:=by have:=ho1.1;simpa using this
  go_wp2_with (at_builtin;refine Zbk rfl _ _ 241 9 rfl 5 i0 Tryz.underlying241 Tryz.underlying9 hi hz0 hz1 hz2 _ _ _ rfl ho1 ⟨s.toArray⟩ rfl ?c4 ?_)
  case c4=>simp only[ByteArray.size];simp;omega
  intro v' w2 hown' hgrow hloc;have hlt1:b<w1.heap.size:=Nat.lt_of_lt_of_le hlt hm1.size;have hb2:w2.heap[b]?=some (.cells (.pointer (some ⟨b,0,none⟩)::v::rest).toArray ty (0,0)):=by rw[hgrow.block b hlt1 (fun e=>hne b e.symm rfl)];exact hbk
  have d0:w2.cell? ⟨b,0,none⟩=some (.pointer (some ⟨b,0,none⟩)):=Z2m hb2 0;have d1:w2.cell? ⟨b,1,none⟩=some v:=Z2m hb2 1;have f1:w2.frozen? ⟨b,1,none⟩=false:=Lib.frozen_of_heap hb2 1;have hnl:((rows++s.map fun b=>[Value.int .u8 (b.toNat:Int)]).length)=rows.length+s.length:=by simp
  have hfl2:(rows++s.map fun b=>[Value.int .u8 (b.toNat:Int)]).flatten=rows.flatten++Lib.strCells ⟨s.toArray⟩:=by rw[List.flatten_append,Zon]
  have hsz:(⟨s.toArray⟩:ByteArray).size=s.length:=by simp[ByteArray.size]
  obtain⟨ao,n',cap,rfl⟩:∃ao n' cap,v'=.slice ao n' cap:=by
    rcases hown'.2 with ⟨hv,_⟩|⟨g,cap,cur,hv,_⟩
    . exact⟨_,_,_,hv⟩
    . exact⟨_,_,_,hv⟩
  have hvb:∀k,(Value.slice ao n' cap).ownBlock=some k->k≠b:=fun k hk e=>by
    subst e;rcases hloc k hk with h|h
    . exact hne k h rfl
    . omega
  go_wp2
  go_ret2
  have hs3:(w2.setCell ⟨b,1,none⟩ (.slice ao n' cap)).heap[b]?=some (.cells (.pointer (some ⟨b,0,none⟩)::.slice ao n' cap::rest).toArray ty (0,0)):=by have hlt2:b<w2.heap.size:=(Array.getElem?_eq_some_iff.1 hb2).1;have e:=(Array.getElem?_eq_some_iff.1 hb2).2;simp[World.setCell,Array.getElem?_modify,hb2]
  refine⟨rfl,.slice ao n' cap,hs3,?_,?_,?_⟩
  . refine owns.stable (w:=w2) ⟨fun r hr=>?_,?_⟩ fun k hk=>(Mod.setCell (fp:=[b]) w2 ⟨b,1,none⟩ (.slice ao n' cap) (.inl (by simp))).block k (hown'.lt k hk).2 (by simpa using hvb k hk)
    . rcases qy13.1 hr with h|h
      . exact hown.1 r h
      . exact Zvt s r h
    . rw[hnl,hfl2,<- hsz];exact hown'
  . refine((hm1.mono (fp':=b::v.ownBlock.toList) (by simp)).trans (fp':=b::v.ownBlock.toList) (Mod.of_grown hgrow (fun k hk=>.inl (by simp[hk]))) (fun k hk=>.inl hk)).trans (fp':=[b]) (Mod.setCell _ _ _ (.inl (by simp))) (by simp)
  . intro k hk;rcases hloc k hk with h|h
    . exact .inr (by simp[h])
    . exact .inl (Nat.le_trans hm1.size h)
set_option maxRecDepth 100000 in
theorem Z14v (ty b:Nat) (p v:Value) (rest:List Value) (rows:List (List Value)) (w:World) (hb:w.heap[b]?=some (.cells (p::v::rest).toArray ty (0,0))) (hown:owns w v 5 [.int .u8] rows) : Calls Tryz.prog 252 #[.pointer (some ⟨b,0,none⟩)] w fun e w'=>e=.returned (.int .i64 rows.length)/\w'=w:=by
  obtain⟨ao,cap,rfl⟩:∃ao cap,v=.slice ao rows.length cap:=by
    rcases hown.2.2 with ⟨hv,h0⟩|⟨g,cap,cur,hv,_⟩
    . exact⟨none,0,by rw[hv,h0]⟩
    . exact⟨_,_,hv⟩
  have c1:w.cell? ⟨b,1,none⟩=some (.slice ao rows.length cap):=Z2m hb 1;go_enter Tryz.func252,Tryz.ntmps252
  go_wp2
  go_ret
  exact⟨rfl,rfl⟩
theorem Zrc (fp:List Nat) (w:World) (g n:Nat) (h:g∈fp):Mod fp w (w.freeze ⟨g,0,none⟩ n):=by
  unfold World.freeze;split
  . exact Mod.refl _ _
  . refine⟨rfl,rfl,rfl,by simp,fun k hk hn=>?_⟩;have:k≠g:=fun e=>hn (e▸h);simp[Array.getElem?_modify,Ne.symm this]
theorem Zvu:Tryz.prog.follows .mixedOrders=true:=by kernel_rfl
theorem Zvv (s:List UInt8):(s.map fun b=>[Value.int .u8 (b.toNat:Int)]).flatten=Lib.byteCells s:=by rw[Zon];simp[Lib.strCells,Lib.byteCells]
theorem Zi5:Tryz.prog.cellsOf 5=1:=by kernel_rfl
set_option maxRecDepth 100000 in
theorem Zrd (ty b:Nat) (p v:Value) (rest:List Value) (l:List UInt8) (w:World) (hb:w.heap[b]?=some (.cells (p::v::rest).toArray ty (0,0))) (hown0:owns w v 5 [.int .u8] (l.map fun b=>[Value.int .u8 (b.toNat:Int)])) : Calls Tryz.prog 253 #[.pointer (some ⟨b,0,none⟩)] w fun e w'=>e=.returned (.string ⟨l.toArray⟩)/\Mod v.ownBlock.toList w w':=by
  have hown:=hown0.2;rw[Zvv,qy3]at hown;have mixed:=Zvu;have hlt:b<w.heap.size:=(Array.getElem?_eq_some_iff.1 hb).1;have hUS:∀W q,(Builtin.unsafeString_ #[305,3] 9 #[.pointer q,.int .i64 0]).run Tryz.prog W=.ok (.string .empty) W:=fun W q=>Lib.run_unsafeString_none W _ _ _ q;rcases hown.2 with ⟨rfl,hl0⟩|⟨g,cap,cur,rfl,hbg,hg,hnc,hcm,hcs,htake⟩
  . have hl:l=[]:=List.eq_nil_of_length_eq_zero hl0;subst hl;have c1:w.drew.cell? ⟨b,1,none⟩=some (.slice none 0 0):=Z2m (w:=w.drew) hb 1;have hSD:(Builtin.unsafeSliceData_ #[241] 305 #[.slice none 0 0]).run Tryz.prog w.drew=.ok (.pointer none) w.drew:=rfl;go_enter Tryz.func253,Tryz.ntmps253
    go_wp2
    go_region_o
    all_goals (go_wp2;go_ret;exact⟨rfl,Mod.drew _ w⟩)
  . by_cases hl0:l=[]
    . subst hl0;by_cases hc0:cap=0
      . subst hc0;have c1:w.drew.cell? ⟨b,1,none⟩=some (.slice (some ⟨g,0,none⟩) 0 0):=Z2m (w:=w.drew) hb 1;have hSD:(Builtin.unsafeSliceData_ #[241] 305 #[.slice (some ⟨g,0,none⟩) 0 0]).run Tryz.prog w.drew=.ok (.pointer (some ⟨w.drew.heap.size,0,none⟩)) (w.drew.alloc (.view ⟨g,0,none⟩ 5)) :=
          Lib.run_unsafeSliceData_zero w.drew _ _ 5 Tryz.underlying305 ⟨g,0,none⟩ 0 (5,cur.size) (by have hg':w.drew.heap[g]?=some (.cells cur 5 (0,0)):=hg;simp[World.shape?,hg'])
        have c2:(w.drew.alloc (.view ⟨g,0,none⟩ 5)).cell? ⟨b,1,none⟩=some (.slice (some ⟨g,0,none⟩) 0 0):=by have:(w.drew.alloc (.view ⟨g,0,none⟩ 5)).heap[b]?=_:=(Lib.alloc_old w.drew _ b hlt).trans hb;exact Z2m this 1
        have c3:(w.alloc (.view ⟨g,0,none⟩ 5)).drew.cell? ⟨b,1,none⟩=some (.slice (some ⟨g,0,none⟩) 0 0):=c2;have c0:w.cell? ⟨b,1,none⟩=some (.slice (some ⟨g,0,none⟩) 0 0):=c1;go_enter Tryz.func253,Tryz.ntmps253
        go_wp2
        go_region_o
        all_goals (go_wp2;go_ret;exact⟨rfl,(Mod.drew _ w).trans (Mod.alloc _ _ _) (fun k hk=>.inl hk)⟩)
      . have c1:w.drew.cell? ⟨b,1,none⟩=some (.slice (some ⟨g,0,none⟩) 0 cap):=Z2m (w:=w.drew) hb 1;have hSD:(Builtin.unsafeSliceData_ #[241] 305 #[.slice (some ⟨g,0,none⟩) 0 cap]).run Tryz.prog w.drew=.ok (.pointer (some ⟨g,0,none⟩)) w.drew :=
          Lib.run_unsafeSliceData_row _ _ _ _ _ _ hc0
        clear hc0;go_enter Tryz.func253,Tryz.ntmps253
        go_wp2
        go_region_o
        all_goals (go_wp2;go_ret;exact⟨rfl,Mod.drew _ w⟩)
    . have hl1:l.length≠0:=by simpa using hl0
      have c1:w.drew.cell? ⟨b,1,none⟩=some (.slice (some ⟨g,0,none⟩) l.length cap):=Z2m (w:=w.drew) hb 1;have hSD:(Builtin.unsafeSliceData_ #[241] 305 #[.slice (some ⟨g,0,none⟩) l.length cap]).run Tryz.prog w.drew=.ok (.pointer (some ⟨g,0,none⟩)) w.drew :=
        Lib.run_unsafeSliceData_row _ _ _ _ _ _ (by omega)
      have hUS':(Builtin.unsafeString_ #[305,3] 9 #[.pointer (some ⟨g,0,none⟩),.int .i64 l.length]).run Tryz.prog w.drew=.ok (.string ⟨l.toArray⟩) (w.drew.freeze ⟨g,0,none⟩ l.length):=by refine Lib.run_unsafeString_row w.drew 305 3 9 5 Tryz.underlying305 Zi5 g cur.size (by have hg':w.drew.heap[g]?=some (.cells cur 5 (0,0)):=hg;simp[World.shape?,hg']) l hl0 (by simp at hcs;omega) (by unfold maxLen at hcm;omega) ?_;intro j x hx;have:=hown.cells (g:=g) rfl j (.int .u8 x.toNat) (by simp[Lib.byteCells,hx]);exact this
      go_enter Tryz.func253,Tryz.ntmps253
      go_wp2
      go_region_o
      all_goals (go_wp2;go_ret;exact⟨rfl,(Mod.drew _ w).trans (Zrc _ _ g _ (by simp[Value.ownBlock])) (fun k hk=>.inl hk)⟩)
end Go.Proofs.YtkhakgbnfapifaaGreatDoor
namespace Go.Proofs.YtkhakgbnfapifaaGreatDoor
open Go.Sx
theorem Zre:Z14u 262 2=true:=by kernel_rfl
def byW (l:List UInt8):List (List Value):=l.map fun b=>[Value.int .u8 (b.toNat:Int)]
theorem Z14w (a b:List UInt8):byW (a++b)=byW a++byW b:=List.map_append
def okp (p:Value) (b:Nat):Prop:=p=.pointer none\/p=.pointer (some ⟨b,0,none⟩)
theorem okp.sc1 {p:Value} {b:Nat} (h:okp p b):sc1 p=p:=by rcases h with rfl|rfl<;>rfl
structure wrS (w:World) (b:Nat) (p q:Value) (l:List UInt8):Prop where
  cells:w.heap[b]?=some (.cells [Sx.sc1 p,Sx.sc1 q].toArray 262 (0,0))
  ok:okp p b
  own:owns w q 5 [.int .u8] (byW l)
theorem wrS.ne {w:World} {b:Nat} {p q:Value} {l:List UInt8} (h:wrS w b p q l) {k:Nat} (hk:Z2 q k):k≠b:=fun e=>by
  subst e;have hk:q.ownBlock=some k:=hk;rcases h.own.2.2 with ⟨hv,-⟩|⟨g,cap,cur,hv,-,hg,-⟩
  . rw[hv]at hk;cases hk
  . rw[hv]at hk;simp[Value.ownBlock]at hk;subst hk;have hb:=h.cells;rw[hb]at hg;simp at hg
def fpW (b:Nat) (q:Value):List Nat:=[b]++(q.ownBlock.toList++[])
def Zi6 (w w':World) (b:Nat) (q:Value) (l:List UInt8):Prop :=
  ∃p' q',wrS w' b p' q' l/\Mod (fpW b q) w w'/\∀k,Z2 q' k->w.heap.size<=k\/k∈q.ownBlock.toList++[]
theorem Z14x (w:World) (b:Nat) (p q:Value) (l s:List UInt8) (h:wrS w b p q l) (hl:l.length+s.length<=140737488355328) : Calls Tryz.prog 283 #[.pointer (some ⟨b,0,none⟩),.string ⟨s.toArray⟩] w fun e w'=>e=.returned (.tuple #[.int .i64 s.length,.nilIface])/\Zi6 w w' b q (l++s):=by have hq:sc1 q=q:=h.own.reads.sc1;have hc:=h.cells;rw[h.ok.sc1,hq]at hc;refine(Ze7 262 b p q [] _ s w Zre (by decide) hc h.ok h.own (by simp only[byW,qy3];omega)).mono ?_;rintro e w' ⟨rfl,v',c1,c2,c3,c4⟩;have hv:sc1 v'=v':=c2.reads.sc1;refine⟨rfl,.pointer (some ⟨b,0,none⟩),v',⟨by rw[hv];exact c1,.inr rfl,by rw[Z14w];exact c2⟩,c3.mono fun z hz=>.inl ?_,fun k hk=>(c4 k hk).imp id fun h=>by simpa using h⟩;simpa [fpW]using hz
theorem Z14y {w:World} {b:Nat} {p q:Value} {l:List UInt8} {ρ:List V} {vb vq vp:Nat} {rds:List Ent} {r:X} (h:wrS w b p q l) (hb:(ρ.getD vb (.i 0)).toN=b) (hq:(ρ.getD vq (.i 0)).toV=q) (hp:(ρ.getD vp (.i 0)).toV=p) (hr:(r.ev ρ).toR=byW l) (hd:∀e∈rds,e.holds ρ w/\e.wr=false/\∀k,e.fp ρ k->k≠b/\¬Z2 q k) : Rel ⟨fpW b q,w⟩ ρ (.row vq 5 [.int .u8] r::.cells vb 262 [.val (.var vp),.val (.var vq)]::rds) w:=by
  refine⟨Mod.refl _ _,qy2.2 ⟨?_,qy2.2 ⟨?_,fun e he=>(hd e he).1⟩⟩,qy2.2 ⟨fun _ k hk=>.inr ?_,qy2.2 ⟨fun _ k hk=>.inr ?_,fun e he hw=>?_⟩⟩,List.pairwise_cons.2 ⟨?_,List.pairwise_cons.2 ⟨?_,?_⟩⟩⟩
  . simp only[Ent.holds];rw[hq,hr];exact h.own
  . simp only[Ent.holds,List.map_cons,List.map_nil,Sc.ev,X.ev];rw[hb,hq,hp];exact h.cells
  . have hk:Z2 (ρ.getD vq (.i 0)).toV k:=hk;rw[hq]at hk;have hk:q.ownBlock=some k:=hk;simp[fpW,hk]
  . have hk:k=(ρ.getD vb (.i 0)).toN:=hk;rw[hb]at hk;simp[fpW,hk]
  . rw[(hd e he).2.1]at hw;cases hw
  . refine qy2.2 ⟨fun _ k h1 h2=>?_,fun e he _ k h1 h2=>?_⟩
    . have h1:Z2 (ρ.getD vq (.i 0)).toV k:=h1;have h2:k=(ρ.getD vb (.i 0)).toN:=h2;rw[hq]at h1;rw[hb]at h2;exact h.ne h1 h2
    . have h1:Z2 (ρ.getD vq (.i 0)).toV k:=h1;rw[hq]at h1;exact((hd e he).2.2 k h2).2 h1
  . intro e he _ k h1 h2;have h1:k=(ρ.getD vb (.i 0)).toN:=h1;rw[hb]at h1;exact((hd e he).2.2 k h2).1 h1
  . exact Z5r fun e he=>(hd e he).2.1
theorem Zi7 {w w':World} {b:Nat} {q:Value} {l:List UInt8} {ρ:List V} {hp:List Ent} (hr:Rel ⟨fpW b q,w⟩ ρ hp w') {p' q':Value} (h:wrS w' b p' q' l) {vq ty:Nat} {ks:List Kd} {r:X} (hm:Ent.row vq ty ks r∈hp) (hq:(ρ.getD vq (.i 0)).toV=q'):Zi6 w w' b q l:=by
  refine⟨p',q',h,hr.mod,fun k hk=>?_⟩;rcases hr.own _ hm rfl k (by show Z2 (ρ.getD vq (.i 0)).toV k;rw[hq];exact hk) with h1|h1
  . exact .inl h1
  . rcases List.mem_cons.1 h1 with h2|h2
    . exact absurd h2 (h.ne hk)
    . exact .inr h2
theorem Ze8 (w:World) (b:Nat) (p q:Value) (l t:List UInt8) (h:wrS w b p q l) (hl:l.length+t.length<=100000000000000) : Calls Tryz.prog 304 #[.pointer (some ⟨b,0,none⟩),.string ⟨t.toArray⟩] w fun e w'=>e=.returned (.tuple #[])/\Zi6 w w' b q (l++txtB t):=by refine Z1 (Z4 (ρ:=[.n b,.v p,.v q,.r (byW l),.s t]) sxE_ok Tryz.func304 Z64 rfl rfl (Z14y h rfl rfl rfl rfl (by simp)) rfl rfl ?_) rfl;simp only[Tree.goal,X.P,X.ev,SV.ev,CV.ev,Sc.ev,qz,QC,QF,QL,QM];refine⟨[.s (txtB t)],rfl,fun _ w' _=>Zm1 w' t (by omega),?_⟩;simp only[qz,QC,QL,QM];intro w1 hr;refine(Z14x w1 b p q l (txtB t) ⟨hr.at_ 1 rfl,h.ok,hr.at_ 0 rfl⟩ (by rw[Z1v];omega)).mono ?_;rintro e w2 ⟨rfl,p1,q1,s1,m1,f1⟩;refine⟨[.i _,.v .nilIface,.a Asrt.tt,.v p1,.v q1,.r (byW _)],rfl,rfl,m1,qy2.2 ⟨s1.cells,qy5 _⟩,qy2.2 ⟨⟨by simp only[Ent.holds,qz];trivial,fun z hz=>by simp only[Ent.fp,qz]at hz;exact hz.elim⟩,qy2.2 ⟨⟨s1.own,fun z hz=>(f1 z hz).imp id .inr⟩,qy5 _⟩⟩,Zhd rfl Z3,?_⟩;(try simp only[Tree.goal,X.P,X.ev,SV.ev,CV.ev,Sc.ev,qz,QA,QB,QC,QD,QE,QF,QG,QH,QI,QJ,QK,QL,QM,Nat.reduceAdd]);exact fun w' hr=>⟨by trivial,Zi7 hr ⟨hr.at_ 2 rfl,s1.ok,hr.at_ 1 rfl⟩ (qy10 _ (qy8 ..)) rfl⟩
theorem Zvw (k:Nat) (ns:List Int) (i:Nat) (h:i<ns.length):((ns.take (i+1)).map (numB k)).flatten=((ns.take i).map (numB k)).flatten++numB k (ns.getD i 0):=by rw[List.take_add_one,qy1,qy7 h];simp only[Option.toList_some,Option.getD_some,List.map_append,List.map_cons,List.map_nil,List.flatten_append,List.flatten_cons,List.flatten_nil,List.append_nil]
theorem Zk8 (k:Nat) (ns:List Int):((ns.map (numB k)).flatten).length=ns.length*k:=by
  induction ns with
  | nil=>simp
  | cons n ns ih=>simp[ih,Zb,Nat.succ_mul];omega
theorem Zc1 (w:World) (b:Nat) (p q:Value) (l:List UInt8) (k:Nat) (lv:Value) (ns:List Int) (h:wrS w b p q l) (hk:k<=2) (hv:Z2h w lv ns) (ha:∀k,(ns.map Zg).flatten≠[]/\Z2 lv k->k≠b/\¬Z2 q k) (hn:∀n∈ns,0<=n/\n<=65535) (hl:l.length<=10000000000000) (hl2:ns.length<=1000000000) : Calls Tryz.prog 305 #[.pointer (some ⟨b,0,none⟩),.int .i64 k,sc1 lv] w fun e w'=>e=.returned (.tuple #[])/\Zi6 w w' b q (l++(ns.map (numB k)).flatten):=by
  refine Z1 (Z4 (ρ:=[.n b,.v p,.v q,.r (byW l),.i k,.v lv,.r (ns.map Zg)]) sxE_ok Tryz.func305 Z6t rfl rfl
    (Z14y h rfl rfl rfl rfl (qy2.2 ⟨⟨hv,rfl,ha⟩,qy5 _⟩)) rfl rfl ?_) rfl
  simp only[Tree.goal,X.P,X.ev,SV.ev,CV.ev,Sc.ev,qz,QA,QD,QF,QH,QJ,QK,QL,QM,Nat.reduceAdd];refine⟨fun vs=>∃(i:Nat) (p' q':Value),vs=[.i i,.v p',.v q',.r (byW (l++((ns.take i).map (numB k)).flatten))]/\i<=ns.length/\okp p' b,fun vs=>ns.length - (vs.getD 0 (.i 0)).toI.toNat,⟨0,p,q,by simp,by omega,h.ok⟩,?_⟩;rintro _ - ⟨i,p',q',rfl,hi,hp'⟩;simp only[qz,QA,QL,QM,qy3,qy4,gI0];refine⟨fun h1=>⟨by omega,?_⟩,fun h1 w' hr=>?_⟩
  . have hni:0<=ns.getD i 0/\ns.getD i 0<=65535:=by
      rw[qy1,qy7 (by omega)];exact hn _ (List.getElem_mem _)
    refine⟨[.s (numB k (ns.getD i 0))],rfl,fun _ w' _=>Z57 w' _ k (by omega) hni.1 (by omega),?_⟩;simp only[qz,QC,QL,QM];intro w1 hr;have hlen:(l++((ns.take i).map (numB k)).flatten).length<=10000000000000+1000000000*2:=by
      rw[qy11,Zk8];have h1:(ns.take i).length<=1000000000:=by simp;omega
      have:=Nat.mul_le_mul h1 hk;omega
    refine(Z14x w1 b p' q' _ (numB k (ns.getD i 0)) ⟨hr.at_ 1 rfl,hp',hr.at_ 0 rfl⟩ (by rw[Zb];omega)).mono ?_;rintro e w2 ⟨rfl,p1,q1,s1,m1,f1⟩;refine⟨[.i _,.v .nilIface,.a Asrt.tt,.v p1,.v q1,.r (byW _)],rfl,rfl,m1,qy2.2 ⟨s1.cells,qy5 _⟩,qy2.2 ⟨⟨by simp only[Ent.holds,qz];trivial,fun z hz=>by simp only[Ent.fp,qz]at hz;exact hz.elim⟩,qy2.2 ⟨⟨s1.own,fun z hz=>(f1 z hz).imp id .inr⟩,qy5 _⟩⟩,Zhd rfl Z3,?_⟩;(try simp only[qz]);refine⟨by omega,by omega,⟨i+1,p1,q1,?_,by omega,s1.ok⟩,by omega⟩;rw[Zvw k ns i (by omega),List.append_assoc];rfl
  . have:i=ns.length:=by omega
    subst this;rw[List.take_length]at hr;exact⟨by trivial,Zi7 hr ⟨hr.at_ 1 rfl,hp',hr.at_ 0 rfl⟩ (qy8 ..) rfl⟩
end Go.Proofs.YtkhakgbnfapifaaGreatDoor
