/- By an AI agent. -/
import Derived.Test.YtimapehenhbloaaGreatDoorH23
import Derived.Maps.RangeWalk
import Derived.Maps.OwnOps
import Derived.Sort.KeysCollected
import Derived.Shelf.Strings.Trim
import Derived.Shelf.Strings.OnBuilder
set_option linter.all false
set_option maxHeartbeats 20000000
set_option maxRecDepth 100000
open Nat renaming reduceAdd→ra
open Go.Proofs.Tryz renaming prog→ϐ
open Go renaming World→ϑ,Value→ϒ,Calls→ϕ
open List renaming length_eq_zero_iff→ϓ,take_length→ϔ,dropWhile_cons→ϗ,length_take→Ϙ,getElem?_map→ϙ,map_append→Ϛ,append_eq_nil_iff→Ϝ,append_nil→Ϡ,map_eq_nil_iff→ϣ,getElem_of_mem→Ϥ,pairwise_iff_getElem→ϥ,take_add_one→ϧ,getElem?_take_of_lt→Ϩ,mem_map→Ϭ,length_filter_le→ϯ,getElem?_eq_none→ϰ,length_pos_iff→ϲ,getD_cons_zero→ϳ,takeWhile_cons→Ϸ,drop_length→Ϻ,length_cons→ϻ,any_append→β,mem_cons→γ,map_take→δ
open Classical renaming byContradiction→ϖ
open Option renaming none→Ϟ,some→Ϫ,mem_toList→Ϲ,some→ζ
open Bool renaming false→Ϣ,true→ϫ,eq_iff_iff→Ϯ
open Nat renaming le_refl→Ϧ,reduceAdd→ϩ,le_trans→ϭ,zero_le→ϱ,le_of_succ_le→ϸ,zero_add→ε
namespace Go.Proofs.Y
open Go Go.Sx Go.RowKit Go.Shelf Go.Lib Go.Sort
def lawS:Maps.Keyed ϐ 9:=Maps.string_keyed Tryz.underlying9
def Z1jz(w:ϑ):(zeroValue 3).run ϐ w=.ok (.int .i64 0) w:=O2
def Zca(n:By)(l:List Kp)(D:DataW Unit):Prop :=
 Maps.IsMap D/\(∀c,Maps.has D (.string c)=(bst n c Ϟ l).isSome)/\∀c q,bst n c Ϟ l=Ϫ q->∀z,D.atKey (.string c) z=.lit (.int .i64 q)
def Zzy(n:By):Zca n [] (.map []):=⟨Maps.isMap_empty,λc=>rfl,λc q h=>by cases h⟩
def Zui{n:By}{l:List Kp}{D:DataW Unit}{x:Kp}(h:Zca n l D)(hf:¬forW n x=ϫ):Zca n (l++[x]) D:=by
 have e:∀c,bst n c Ϟ (l++[x])=bst n c Ϟ l:=λc=>by rw[Ze9,ϛ (λh=>hf h.1)]
 exact⟨h.1,λc=>by rw[e];exact h.2.1 c,λc q hq=>by rw[e]at hq;exact h.2.2 c q hq⟩
variable{q:Int}
def Z13v{n:By}{l:List Kp}{D:DataW Unit}(h:Zca n l D){c:By}(hat:D.atKey (.string c) (.lit (.int .i64 0))=.lit (.int .i64 q)):q=(bst n c Ϟ l).getD 0:=by
 cases hb:bst n c Ϟ l with
 | none =>
  have:=h.2.1 c;rw[hb]at this;rw[Maps.atKey_of_not_has this]at hat;simp only[DataW.lit.injEq,Lit.int.injEq,true_and]at hat;rw[<- hat];rfl
 | some q' =>
  rw[h.2.2 c q' hb]at hat;simp only[DataW.lit.injEq,Lit.int.injEq,true_and]at hat;rw[<- hat];rfl
def Zzz{n:By}{l:List Kp}{D:DataW Unit}{x:Kp}(h:Zca n l D)(hf:forW n x=ϫ)(hq:q=max ((bst n x.1 Ϟ l).getD 0) x.2.2):Zca n (l++[x]) (D.put (.string x.1) (.lit (.int .i64 q))):=by
 have e0:bst n x.1 Ϟ (l++[x])=Ϫ q:=by rw[Ze9,ϝ ⟨hf,rfl⟩,hq]
 have e1:∀c,c≠x.1->bst n c Ϟ (l++[x])=bst n c Ϟ l:=λc hc=>by rw[Ze9,ϛ (λh=>hc h.2.symm)]
 refine⟨h.1.put _ _,λc=>?_,λc q' hq' z=>?_⟩
 ·by_cases hc:c=x.1
  ·rw[hc,e0];exact Maps.has_put_same h.1 (show WideAt.IsKeyLit (.string x.1) from trivial) _
  rw[e1 c hc,Maps.has_put_other (by simpa using hc)];exact h.2.1 c
 by_cases hc:c=x.1
 ·rw[hc,e0]at hq';cases hq';rw[hc];exact Maps.atKey_put_same h.1 (show WideAt.IsKeyLit (.string x.1) from trivial) _ _
 rw[e1 c hc]at hq';rw[Maps.atKey_put_other (by simpa using hc)];exact h.2.2 c q' hq' z
def Z1eh{w:ϑ}{a:Addr}{u:ϒ}(h:w.cell? a=Ϫ u):a.block<w.heap.size:=by refine ϖ λhn=>?_;have:w.heap[a.block]?=Ϟ:=O3;simp[World.cell?,this]at h
def Zg0{w w':ϑ}{a:Addr}{u:ϒ}(h:w.cell? a=Ϫ u)(hb:Below w.heap.size w w'):w'.cell? a=Ϫ u:=by rw[<- h];exact World.cell?_of_block (hb.block _ (Z1eh h))
def Z100{w:ϑ}{ad:Addr}{cap:Nat}{l:List Kp}(hv:Z1r w (.slice (Ϫ ad) l.length cap) l){k:Nat}(hk:k<l.length): w.cell? (ad.add (k*3))=Ϫ (.string ⟨(l.getD k kD).1.toArray⟩)/\w.cell? ((ad.add (k*3)).add 1)=Ϫ (.string ⟨(l.getD k kD).2.1.toArray⟩)/\w.cell? ((ad.add (k*3)).add 2)=Ϫ (.int .i64 (l.getD k kD).2.2):=by
 have hr:(l.map encK).getD k []=encK (l.getD k kD):=by rw[qy1,qy1,ϙ,qy7 hk];rfl
 have key:∀c,c<3->w.cell? ((ad.add (k*3)).add c)=Ϫ ((encK (l.getD k kD)).getD c undef):=λc hc=>by obtain⟨ad',cap',e,h,-⟩:=hv.get (by rw[qy3];exact hk) hc;simp only[Value.slice.injEq,ζ.injEq]at e;obtain⟨rfl,-,rfl⟩:=e;rw[hr]at h;rw[Addr.add_add];exact h
 refine⟨?_,key 1 U,key 2 U⟩;have:=key 0 U;rwa [Addr.add_zero']at this
def Zrp{w w':ϑ}(h:Mod [] w w'):w.grownBy w' Ϟ:=⟨h.os,h.tape,h.output,h.size,λk hk _=>h.block k hk O1⟩
def Zjy(w:ϑ)(o:Obj):(w.alloc o).heap[w.heap.size]?=Ϫ o:=by show(w.heap.push o)[w.heap.size]?=Ϫ o;simp
def Zjz{w:ϑ}{b:Nat}{cs:Array ϒ}{t:TypeId}(h:w.heap[b]?=Ϫ (.cells cs t (0,0)))(j:Nat):w.cell? ⟨b,j,Ϟ⟩=cs[j]?:=by simp[World.cell?,h]
def Z19e{x:Int}(h1:-9223372036854775808<=x)(h2:x<=9223372036854775807):(Lit.int .i64 x).wf=ϫ:=WalkArith.wf_i64 O
def Z1ho{c y:Int}(hc:(Lit.int .i64 c).wf=ϫ)(h1:0<=y)(h2:y<=1):(Lit.int .i64 (max c y)).wf=ϫ:=by simp[Lit.wf]at hc;exact Z19e O O
def Z1ei:(Tryz.prog.info? 193).map (λi=>(i.zero,i.size,i.bytes))=Ϫ (Ϫ (.agg #[.string ⟨#[]⟩,.int .i64 0]),2,24):=O2
def Z13w(w:ϑ)(x y:ϒ)(t:TypeId):∀j u,[x,y][j]?=Ϫ u->(w.alloc (.cells #[x,y] t)).cell? ((⟨w.heap.size,0,Ϟ⟩:Addr).add j)=Ϫ u:=by
 intro j u hj;rw[Addr.add_lit,Zjz (Zjy w _)]
 match j,hj with
 | 0,hj=>exact hj
 | 1,hj=>exact hj
def Z13x(D:DataW Unit)(left:Lit->Bool)(ss:List Rd):Prop:=Collected D left (ss.map (·.1))/\∀x∈ss,∀z,D.atKey (.string x.1) z=.lit (.int .i64 x.2)
def Zuj(D:DataW Unit):Z13x D (Maps.has D) []:=⟨Collected.start D,O1⟩
def Z101{D:DataW Unit}{left:Lit->Bool}{ss:List Rd}(h:Z13x D left ss){c:By}(hlk:left (.string c)=ϫ)(hat:∀z,D.atKey (.string c) z=.lit (.int .i64 q)):Z13x D (λz=>left z && !z.sameKey (.string c)) (ss++[(c,q)]):=by
 refine⟨by rw[Ϛ];exact h.1.step hlk hat,λx hx=>?_⟩;rcases qy13.1 hx with hx|hx
 ·exact h.2 x hx
 rw[qy12.1 hx];exact hat
def Zrq{n:By}{l:List Kp}{D:DataW Unit}{left:Lit->Bool}{ss ts:List Rd}(hD:Zca n l D)(h:Z13x D left ss)(hl:∀k,left k=Ϣ)(hp:ts.Perm ss)(hs:∀i j,(hij:i<j)->(hj:j<ts.length)->Z5 ts[j].1 (ts[i]'(Nat.lt_trans hij hj)).1=Ϣ):okY n ts l:=by
 have hnd:=(hp.map _).nodup_iff.2 h.1.1;refine⟨?_,λc q=>?_⟩
 ·rw[Z13h,ϥ];intro i j hi hj hij;rcases Z15.1 (hs i j hij hj)with h1|h1
  ·exact h1
  rw[List.nodup_iff_pairwise_ne,ϥ]at hnd;have:=hnd i j (by simpa using hi) (by simpa using hj) hij;simp only[List.getElem_map]at this;exact ϟ h1 this
 rw[hp.mem_iff];constructor
 ·intro hm;have h1:=h.2 _ hm;have h2:=(h.1.2 c).1 (Ϭ.2 ⟨_,hm,rfl⟩);have h3:=hD.2.1 c;rw[h2.1]at h3;cases hb:bst n c Ϟ l with
  | none=>rw[hb]at h3;cases h3
  | some q' =>
   have h4:=hD.2.2 c q' hb .nil;rw[h1]at h4;simp only[DataW.lit.injEq,Lit.int.injEq,true_and]at h4;rw[h4]
 intro hb;have h3:=hD.2.1 c;rw[hb]at h3;obtain⟨x,hx,hxc⟩:=Ϭ.1 ((h.1.2 c).2 ⟨h3,hl _⟩);have h1:=h.2 x hx .nil;have h4:=hD.2.2 c q hb .nil;rw[hxc,h4]at h1;simp only[DataW.lit.injEq,Lit.int.injEq,true_and]at h1;rw[show(c,q)=x from Prod.ext hxc.symm h1];exact hx
def cmpY(x y:Rd):Int:=Z2x x.1 y.1
def Zeg(x y:Rd):ltOf cmpY x y=Z5 x.1 y.1:=by
 unfold ltOf cmpY;have:=@Z6k x.1 y.1;cases h:Z5 x.1 y.1 with
 | true=>exact decide_eq_true (this.2 h)
 | false=>exact decide_eq_false (λh2=>by rw[this.1 h2]at h;cases h)
def swoY:Sort.SWO (ltOf cmpY) where
 irrefl x:=by rw[Zeg];exact Zs _
 trans x y z h1 h2:=by rw[Zeg]at *;exact Zf h1 h2
 ntrans x y z h1 h2:=by
  rw[Zeg]at *;rcases Z15.1 h1 with h1|h1<;>rcases Z15.1 h2 with h2|h2
  ·exact Z1h (Zf h2 h1)
  ·rw[h2];exact Z1h h1
  ·rw[<- h1];exact Z1h h2
  rw[h2,h1];exact Zs _
def Z1k0(x y:Rd)(W:ϑ):ϕ ϐ 283 #[.agg (encY x).toArray,.agg (encY y).toArray] W λe w'=>e=.returned (.int .i64 (cmpY x y))/\∃q os',w'=grow (W.drewN q) os':=by
 have hcon:∀W',ϕ ϐ 114 #[.string ⟨x.1.toArray⟩,.string ⟨y.1.toArray⟩] W' λe w'=>e=.returned (.int .i64 (cmpY x y))/\w'=W':=λW'=>by refine(Any.strings_Compare Tryz.lays106 ⟨x.1.toArray⟩ ⟨y.1.toArray⟩ W').mono ?_;rintro e w' ⟨rfl,rfl⟩;rw[Zjn];exact⟨rfl,rfl⟩
 simp only[encY];generalize cmpY x y=r at hcon⊢;go_enter Tryz.func283,Tryz.ntmps283
 go_wp2_with (go_at_call 114;refine(hcon _).mono ?_;rintro e w' ⟨rfl,rfl⟩)
 go_ret
 exact⟨rfl,0,_,by rw[alloc_eq_grow,alloc_eq_grow,grow_grow];rfl⟩
def Z19f(x:Rd):∀v∈encY x,v.oneCell'=ϫ:=by intro v hv;simp only[encY,γ,List.not_mem_nil,or_false]at hv;rcases hv with rfl|rfl<;>rfl
def Z1ej(w:ϑ)(f:ϒ):ϕ ϐ 339 #[.slice Ϟ 0 0,.int .i64 0,.int .i64 0,f] w λe w'=>e=.returned (.tuple #[])/\w'=w:=by
 go_enter Tryz.func339,Tryz.ntmps339
 go_wp2
 refine wp_loop_rounds 1 ?_;rw[rounds_succ];go_wp2;go_end0
 exact⟨rfl,rfl⟩
def Z1ek(w:ϑ)(f:ϒ)(n:Int):ϕ ϐ 319 #[.slice Ϟ 0 0,.int .i64 0,.int .i64 0,.int .i64 n,f] w λe w'=>e=.returned (.tuple #[])/\w'=w:=by
 go_enter Tryz.func319,Tryz.ntmps319
 go_wp2
 refine wp_loop_rounds 1 ?_;rw[rounds_succ];go_wp2_with (go_at_call 339;refine(Z1ej _ _).mono ?_;rintro e w' ⟨rfl,rfl⟩)
 (try simp only)
 refine bodyPost_ret (results_none rfl _ _ _) rfl ?_;exact⟨rfl,rfl⟩
def Z19g(w:ϑ):ϕ ϐ 282 #[.slice Ϟ 0 0,.func (.func 283) #[] #[]] w λe w'=>e=.returned (.tuple #[])/\Mod [] w w':=by
 have hl:∀W,ϕ ϐ 320 #[.int .u64 0] W λe w'=>e=.returned (.int .i64 (Lib.bitLen 0))/\w'=W:=λW =>
  Any.bits_Len (SlLaysF0.n15.bits (ρ:=Tryz.sortR_ren) { Tryz.sortR with }) 0 W O O
 go_enter Tryz.func282,Tryz.ntmps282
 go_wp2_with (first|(go_at_call 320;refine(hl _).mono ?_;rintro e w' ⟨rfl,rfl⟩)|(go_at_call 319;refine(Z1ek _ _ _).mono ?_;rintro e w' ⟨rfl,rfl⟩))
 go_end0
 exact⟨rfl,Mod.refl _ _⟩
def size_map{w:ϑ}{P:Program}{k:TypeId}{R:ϒ->Option (DataW Unit×List MemPlace)}{b n:Nat}{D:DataW Unit}(h:w.ownsMap P k R b n D):Maps.size D<=n:=by obtain⟨es,clock,hb,F,hn,rfl⟩:=h;simpa[Maps.size,length_sorted]using hn
def Z19h{w:ϑ}{base e k:Nat}{v:ϒ}{n:Nat}{xs:List ϒ}(h:w.ownsRow base e k v n xs):w.ownsRow 0 e k v n xs :=
 ⟨h.1,h.2.imp id λ⟨g,cap,cur,a,b,r⟩=>⟨g,cap,cur,a,ϱ _,r⟩⟩
def Z13y(w:ϑ):Z195 w (.slice Ϟ 0 0) []:=⟨O1,rfl,.inl ⟨rfl,rfl⟩⟩
def Z13z(ts:List Rd):∀r∈ts.map encY,rowOk kY r:=by intro r hr;obtain⟨x,-,rfl⟩:=Ϭ.1 hr;exact⟨⟨_,rfl⟩,⟨_,rfl⟩,trivial⟩
def Z1el(w:ϑ)(a:Option Addr)(cap:Nat)(l:List Kp)(n:By)(hv:Z1r w (.slice a l.length cap) l)(hs:Z2d l)(hn:n.length<1000000000)(hl:l.length<1000000)(hq:∀x∈l,0<=x.2.2/\x.2.2<=1): ϕ ϐ 245 #[.slice a l.length cap,.string ⟨n.toArray⟩] w λe w'=>∃v' rs,e=.returned v'/\Z195 w' v' rs/\newV w.heap.size v'/\okY n rs l/\Mod [] w w':=by
  have hv0:=hv;obtain⟨hrow,a',cap',e1,⟨hc1,hc2⟩,hcells⟩:=hv;simp only[Value.slice.injEq,qy3]at e1;obtain⟨rfl,-,rfl⟩:=e1;have hmm:=@run_makeMap ϐ;go_enter Tryz.func245,Tryz.ntmps245;go_wp2
  go_loopw [14] (λi wr=>∃(k:Nat) (D:DataW Unit),k<=l.length/\i=.int .i64 k/\wr.ownsMap ϐ 9 (plainElem ϐ 3) w.heap.size k D/\Zca n (l.take k) D/\Below w.heap.size w wr)
    (λi _=>l.length - (intOf i).toNat)
  case atStart=>exact⟨0,_,ϱ _,rfl,World.ownsMap_made _ _ _ _,Zzy n,(Below.refl _ _).alloc (Ϧ _) _⟩
  case round =>
    obtain⟨k,D,hk,rfl,hown,hD,hnx⟩:=hrel;by_cases hlt:k<l.length
    . obtain⟨ad,rfl,hcell⟩:=hcells (λe=>by rw[ϣ]at e;rw[e]at hlt;exact Nat.not_lt_zero _ hlt);obtain⟨q0,q1,q2⟩:=Z100 hv0 hlt;have h0:=Zg0 q0 hnx;have h1:=Zg0 q1 hnx;have h2:=Zg0 q2 hnx;have hx1:=hs _ (memW l k hlt);have htk:=Zri l k hlt;have hq1:=hq _ (memW l k hlt);generalize l.getD k kD=x at h0 h1 h2 hx1 htk hq1;rw[Addr.add_succ']at h1 h2;clear q0 q1 q2;generalize hA:ad.add (k*3)=A at h0 h1 h2;have hkey:keyOf ϐ 9 (.string ⟨x.1.toArray⟩)=Ϫ (.string x.1):=by have:=WideMaps.keyOf_string_mk Tryz.underlying9 (s:=⟨x.1.toArray⟩) (by have:=hx1.1;simp[ByteArray.size,maxLen];omega);simpa using this
      have hc:=Z1dv (wr.alloc (.cells #[.string ⟨x.1.toArray⟩,.string ⟨x.2.1.toArray⟩,.int .i64 x.2.2] 65)) x.2.1 n (by have:=hx1.2;omega) O;go_wp2_with (first
        | (go_at_call 281;refine hc.mono ?_;rintro e w2 ⟨rfl,gm⟩
           have g1:=Zrp gm;have hown2:=(hown.alloc (.cells #[.string ⟨x.1.toArray⟩,.string ⟨x.2.1.toArray⟩,.int .i64 x.2.2] 65)).kept g1 O1;have hnx2:=(hnx.alloc hnx.size (.cells #[.string ⟨x.1.toArray⟩,.string ⟨x.2.1.toArray⟩,.int .i64 x.2.2] 65)).grown g1 (by have:=hnx.size;simp;omega) (λj hj=>by cases hj);have hbl:=g1.block wr.heap.size O1 O1;simp only[Zjy]at hbl;have c0:=Zjz hbl 0;have c1:=Zjz hbl 1;have c2:=Zjz hbl 2)
        | (at_lookup;refine wpList_lookup_own_int _ rfl _ _ 296 rfl 9 3 .i64 lawS Tryz.underlying296 Tryz.underlying3 (Z1jz _) w.heap.size k _ rfl hown2 _ _ rfl hkey ?_;intro c hat hwc)
        | (at_mapUpdate;refine wpList_mapUpdate_own _ rfl _ _ _ 296 rfl 9 3 lawS Tryz.underlying296 _ w.heap.size k _ rfl hown2 (by unfold maxLen;omega) _ _ _ rfl rfl hkey _ [] (plainElem_int Tryz.underlying3 (Z1ho hwc hq1.1 hq1.2)) ?_;intro w3 hown3 hgrow3)
        | go_in)
      . have hf:forW n x=ϫ:=O5;have hg:Zca n (l.take (k+1)) (D.put (.string x.1) (.lit (.int .i64 (max c x.2.2)))):=by rw[htk];exact Zzz hD hf (by rw[Z13v hD hat])
        have hb3:=hnx2.grown hgrow3 hnx2.size (λj hj=>by cases hj;exact Ϧ _);go_roundw
        case rel=>exact⟨k+1,_,O,by go_num,hown3,hg,hb3⟩
        case measure=>simp[intOf];omega
      have hf:¬forW n x=ϫ:=by rw[forW];simp_all
      have hg:Zca n (l.take (k+1)) D:=by rw[htk];exact Zui hD hf
      go_roundw
      case rel=>exact⟨k+1,_,O,by go_num,hown2.mono O,hg,hnx2⟩
      case measure=>simp[intOf];omega
    have hke:k=l.length:=O;subst hke;rw[ϔ]at hD;go_wp2_with (first
      | (at_range;refine wpList_range_own _ rfl _ 296 rfl 9 3 lawS Tryz.underlying296 _ w.heap.size l.length _ rfl hown ?_;intro w0 hrg0 hg0 hs0)
      | go_in)
    go_frame
    obtain⟨i0,hi,hz0,hz1,hz2⟩:=info_parts Z1ei;have hb0:=hnx.grown hg0 hnx.size (λj hj=>by cases hj);have hr0:w.heap.size<=wr.heap.size:=hnx.size;have hszD:Maps.size D<=l.length:=size_map hown;generalize wr.heap.size=r0 at hrg0 hr0⊢;clear hg0 hs0 hown hnx;go_loopw [8] (λv wq=>∃(left:Lit->Bool) (cnt:Nat) (ss:List Rd),wq.ranges ϐ 9 (plainElem ϐ 3) w.heap.size r0 l.length D left cnt/\ss.length+cnt<=Maps.size D /\
        wq.ownsRow (w.heap.size+1) 193 2 v ss.length (ss.map encY).flatten/\Z13x D left ss/\Below w.heap.size w wq)
      (λ_ wq=>wq.rangeLeft w.heap.size r0)
    case atStart=>exact⟨_,_,[],hrg0,O1,⟨rfl,.inl ⟨rfl,rfl⟩⟩,Zuj D,hb0⟩
    case round =>
      obtain⟨left,cnt,ss,hrg,hcs,hrow,hC,hnq⟩:=hrel;go_wp2_with (first
        | (at_next;refine wpList_next_ranges _ rfl _ rfl 9 lawS (plainElem ϐ 3) Go.Proofs.encStr (Value.int .i64) (λkey kl hk=>by obtain⟨x,hx,_⟩:=Maps.keyOf_str Tryz.underlying9 hk;exact⟨x,hx⟩) (λv y hv=>by obtain⟨c,rfl,_⟩:=plainElem_int_inv Tryz.underlying3 hv;exact⟨c,rfl⟩) w.heap.size r0 l.length _ _ _ rfl hrg ?_ ?_)
        | go_in)
      . intro hc00 hl0;rcases hrow.2 with⟨hnil,hz⟩|⟨g,cap2,cur,hvs,hbase,hb,h1,h2,h3,h4⟩
        . have hss:ss=[]:=ϓ.1 hz;subst hss;subst hnil;go_wp2_with (go_at_call 282;refine(Z19g _).mono ?_;rintro e w' ⟨rfl,gm⟩);go_ret
          refine⟨.slice Ϟ 0 0,[],rfl,Z13y _,Z2r _,Zrq hD hC hl0 (List.Perm.refl _) (λi j hij hj=>ϟ hj O1),?_⟩;exact Mod.of_below (hnq.grown (Zrp gm) hnq.size (λj hj=>by cases hj))
        subst hvs;have hgl:=(Array.getElem?_eq_some_iff.1 hb).1;have hlen:ss.length<4611686018427387904:=O;have eg:∀args w,(callFunc 283 args).run ϐ w=.ok (.enter 283 args) w:=enters_of Tryz.func283 O2 rfl;have hc:ϕ ϐ 282 #[.slice (Ϫ ⟨g,0,Ϟ⟩) ss.length cap2,.func (.func 283) #[] #[]] wr _ :=
          AnyQ.slices_SortFunc Tryz.sortR 2 Tryz.isAgg193 Tryz.sizeOf193 encY (λ_=>rfl) Z19f cmpY swoY 283 #[] g 0 cap2 ss.toArray wr eg (λ_ _ _ _ x y=>Z1k0 x y _) (Zjv (enc:=encY) (ds:=ss) (λ_=>rfl) U hb h4) hgl hlen
        go_wp2_with (go_at_call 282;refine hc.mono ?_;rintro e w' ⟨rfl,d',nn,os,hp,hso,rfl⟩)
        go_ret
        obtain⟨ts⟩:=d';have hsz:ts.length=ss.length:=hp.1;have hpm:ts.Perm ss:=by
          have:=hp.2.2;simp only[List.size_toArray]at this;rw[<- hsz]at this;have e:ss.take ts.length=ss:=by rw[hsz,ϔ]
          simpa[e]using this
        exact⟨_,ts,rfl,⟨Z13z ts,Z19h (base:=w.heap.size+1) (by have:=Zjx (n:=nn) (os:=os) (enc:=encY) (ts:=ts) (λ_=>rfl) U hbase hb O h2 h3;rw[qy3,<- hsz];exact this)⟩,λk hk=>by have:g=k:=ζ.inj hk;omega,Zrq hD hC hl0 hpm (λi j hij hj=>by have:=hso i j (ϱ _) hij (by show j<ss.length;omega);rw[Zeg,getElem!_pos _ j (by simpa using hj),getElem!_pos _ i O3]at this;exact this),Mod.of_below (hnq.grown (Zjw _) hnq.size (λj hj=>by cases hj;exact ϸ hbase))⟩
      intro x c kl yd yp w2 cnt2 hkey hlk hv hat hrg2 hlt2 hg2 hs2 hen;obtain⟨x',ex,rfl,_⟩:=Maps.keyOf_str Tryz.underlying9 hkey;obtain rfl:x=x':=encStr_inj ex;have hrow2:=hrow.kept hg2 (Or.inr (row_ne_iter hrow hrg).symm);clear hs2;obtain⟨c',ec,e2,hwc⟩:=plainElem_int_inv Tryz.underlying3 hv;obtain rfl:c=c':=by simpa using ec
      obtain rfl:yd=.lit (.int .i64 c):=(Prod.mk.inj e2).1;clear hv ec e2;go_wp2_with (first
        | (at_builtin;refine wpList_append_own _ rfl _ _ 190 rfl (w.heap.size+1) 193 i0 (.agg #[.string ⟨#[]⟩,.int .i64 0]) 2 24 Tryz.underlying190 hi hz0 hz1 hz2 rfl U _ _ _ rfl (hrow2.alloc _) ⟨w2.heap.size,0,Ϟ⟩ 1 1 [Go.Proofs.encStr x,.int .i64 c] rfl rfl (Z13w _ _ _ _) (by simp[Value.oneCell',Go.Proofs.encStr]) (by unfold maxLen;omega) O (by have:=hrg2.owns.lt;simp;omega) ?_;intro v' w3 hown' hg3 hnil3;go_frame)
        | go_in)
      have hrg3:=(hrg2.alloc _).kept hg3 (row_ne_low hrow2 (Nat.lt_succ_self _)) (row_ne_iter hrow2 hrg2);have hb3:=((hnq.grown hg2 hnq.size (λj hj=>by cases hj;exact hr0)).alloc (by have:=hnq.size;have:=hg2.size;omega) _).grown hg3 (by have:=hnq.size;have:=hg2.size;simp;omega) (λj hj=>ϸ (hrow2.lt j hj).1);go_roundw
      case rel =>
        exact⟨_,cnt2,ss++[(x,c)],hrg3,O3,by simpa[encY,Go.Proofs.encStr]using hown',Z101 hC hlk hat,hb3⟩
      case measure=>rw[hrg3.left_eq,hrg.left_eq];exact hlt2
end Go.Proofs.Y
namespace Go.Proofs.Y
open Go Go.Sx
def Z1hp{x:Kp}(h:Z4b x=0):Z9 x.1=ϫ/\chkT x.2.1 ϫ=0/\0<=x.2.2/\x.2.2<=1:=by
 unfold Z4b at h;split at h
 ·rename_i h1;unfold askE at h;split at h
  ·rename_i h2;split at h
   ·rename_i h3;exact⟨h1,h2,h3⟩
   exact ϟ h U
  rename_i h2;exact ϟ h h2
 exact ϟ h U
def Zrr{l:List Kp}(h:Zl l=0):∀x∈l,Z9 x.1=ϫ/\chkT x.2.1 ϫ=0/\0<=x.2.2/\x.2.2<=1:=λx hx=>Z1hp ((Z1v.1 h).2.1 x hx)
def c_Of(w:ϑ)(v:ϒ)(l:List Kp)(n:By)(hv:Z1r w v l)(hs:Z2d l)(hn:n.length<1000000000)(h:Zl l=0):ϕ ϐ 245 #[sc1 v,.string ⟨n.toArray⟩] w λe w'=>∃v',e=.returned (sc1 v')/\Z195 w' v' (rdOf n l)/\newV w.heap.size v'/\Mod [] w w':=by
 rw[hv.sc1];obtain⟨k1,k2,k3⟩:=Z1v.1 h;have hv0:=hv;obtain⟨-,a,cap,rfl,-,-⟩:=hv;rw[qy3]at hv0⊢;refine(Z1el w a cap l n hv0 hs hn O λx hx=>(Zrr h x hx).2.2).mono ?_;rintro e w' ⟨v',rs,rfl,g1,g2,g3,g4⟩;have e1:rs=rdOf n l:=by obtain⟨a1,a2⟩:=Z13i (Zmo k3);exact Zmn g3.1 a1 λx=>by rw[show x=(x.1,x.2) from rfl,g3.2,a2]
 subst e1;exact⟨v',by rw[g1.reads.sc1],g1,g2,g4⟩
def wA:List Kp:=[([97,110,110],[35],0),([97,110,110],[97,47,43],1),([98,111,98],[99],0)]
def Z1em(w:ϑ):ϕ ϐ 94 #[] w λe w'=>∃v',e=.returned (sc1 v')/\Z1r w' v' wA/\newV w.heap.size v'/\Mod [] w w':=by refine Wp (J:=[]) Zak ?_;simp only[QR];intro v w' hr;exact⟨v,rfl,(hr.at_ 0 rfl).reads,hr.fresh 0 rfl,hr.mod⟩
end Go.Proofs.Y
namespace Go.Proofs.Y
open Go.Sx
abbrev Opt:=Int×By
def encO(o:Opt):List ϒ:=[.int .i64 o.1,.string ⟨o.2.toArray⟩]
abbrev oD:Opt:=(0,[])
def Z1n(os:List Opt)(i:Nat):Value.gI (((os.map encO).getD i []).getD 0 undef)=(os.getD i oD).1:=by simp only[qy1,ϙ];cases os[i]?<;>rfl
def Z1o(os:List Opt)(i:Nat):Value.gS (((os.map encO).getD i []).getD 1 undef)=(os.getD i oD).2:=by simp only[qy1,ϙ];cases os[i]?<;>simp[encO,Value.gS,undef]
def Z1en(os:List Opt)(i:Nat)(h:i<os.length):os.drop i=os.getD i oD::os.drop (i+1):=by rw[List.drop_eq_getElem_cons h,qy1,qy7 h];rfl
structure Msg where
 kind:Int
 code:Int
 id:Int
 tok:List UInt8
 opts:List Opt
 pay:List UInt8
abbrev mNil:Msg:=⟨0,0,0,[],[],[]⟩
def mV(m:Msg)(v:ϒ):ϒ:=.agg #[.int .i64 m.kind,.int .i64 m.code,.int .i64 m.id,.string ⟨m.tok.toArray⟩,v,.string ⟨m.pay.toArray⟩]
abbrev Z3q(w:ϑ)(v:ϒ)(os:List Opt):Prop:=reads w v [.int .i64,.str] (os.map encO)
def optE:Int->List Opt->Int
 | _,[]=>0
 | was,o::l=>if 0<=o.1/\o.1<=65535 then(if o.1<was then 4 else if 60<(o.2.length:Int)then 2 else optE o.1 l)else 3
def chk(m:Msg):Int :=
 if 0<=m.kind/\m.kind<=3 then
  if 0<=m.code/\m.code<=255/\0<=m.id/\m.id<=65535 then
   if 8<(m.tok.length:Int)\/12<(m.opts.length:Int)\/200<(m.pay.length:Int)then 2
   else if optE 0 m.opts≠0 then optE 0 m.opts
   else if m.code=0/\(m.tok≠[]\/m.pay≠[]\/m.opts≠[])then 1 else 0
  else 3
 else 7
variable{m:Msg}
def Zx3(h:¬(0<=m.kind/\m.kind<=3)):chk m=7:=ϛ h
def Zk0(h:0<=m.kind/\m.kind<=3)(h1:¬(0<=m.code/\m.code<=255/\0<=m.id/\m.id<=65535)):chk m=3:=by rw[chk,ϝ h,ϛ h1]
def Zx4(h:0<=m.kind/\m.kind<=3)(h1:0<=m.code/\m.code<=255/\0<=m.id/\m.id<=65535)(h2:8<(m.tok.length:Int)\/12<(m.opts.length:Int)\/200<(m.pay.length:Int)):chk m=2:=by rw[chk,ϝ h,ϝ h1,ϝ h2]
def Zx5(h:0<=m.kind/\m.kind<=3)(h1:0<=m.code/\m.code<=255/\0<=m.id/\m.id<=65535)(h2:¬(8<(m.tok.length:Int)\/12<(m.opts.length:Int)\/200<(m.pay.length:Int))): chk m=if optE 0 m.opts≠0 then optE 0 m.opts else if m.code=0/\(m.tok≠[]\/m.pay≠[]\/m.opts≠[])then 1 else 0:=by rw[chk,ϝ h,ϝ h1,ϛ h2]
def Zac:chk m=0↔(0<=m.kind/\m.kind<=3)/\(0<=m.code/\m.code<=255/\0<=m.id/\m.id<=65535)/\(m.tok.length<=8/\m.opts.length<=12/\m.pay.length<=200)/\optE 0 m.opts=0/\(m.code=0->m.tok=[]/\m.pay=[]/\m.opts=[]):=by
 unfold chk;constructor
 ·intro h;split at h
  ·split at h
   ·split at h
    ·exact ϟ h U
    split at h
    ·contradiction
    split at h
    ·exact ϟ h U
    rename_i h1 h2 h3 h4 h5;exact⟨h1,h2,O,qy9.1 h4,λh6=>⟨ϖ λh7=>h5 ⟨h6,.inl h7⟩,ϖ λh7=>h5 ⟨h6,.inr (.inl h7)⟩,ϖ λh7=>h5 ⟨h6,.inr (.inr h7)⟩⟩⟩
   exact ϟ h U
  exact ϟ h U
 rintro⟨h1,h2,h3,h4,h5⟩;rw[ϝ h1,ϝ h2,ϛ O,ϛ (λh=>h h4),ϛ];rintro⟨h6,h7⟩;obtain⟨a,b,c⟩:=h5 h6;rcases h7 with h|h|h
 ·exact h a
 ·exact h b
 exact h c
def Zi4(w:ϑ)(n a b:Int):ϕ ϐ 204 #[.int .i64 n,.int .i64 a,.int .i64 b] w λe w'=>e=.returned (.bool (decide (a<=n/\n<=b)))/\Mod [] w w':=by refine Wp (J:=[.i n,.i a,.i b]) Zcm ?_;simp only[QR];exact λw' hr=>⟨O1,hr.mod⟩
def Z140(w:ϑ)(v:ϒ)(os:List Opt)(hv:Z3q w v os)(hl:os.length<1099511627776):ϕ ϐ 205 #[sc1 v] w λe w'=>e=.returned (.int .i64 (optE 0 os))/\Mod [] w w':=by
 refine Wr (J:=[.v v,.r (os.map encO)]) Zc0 ?_;simp only[QR,ra];refine⟨λvs=>∃(i:Nat) (x:V) (was:Int),vs=[x,.i was,.i i]/\i<=os.length/\optE was (os.drop i)=optE 0 os,λvs=>(os.length - (vs.getD 2 (.i 0)).toI).toNat,⟨0,_,0,rfl,O,rfl⟩,?_⟩;rintro _ - ⟨i,x,was,rfl,hi,hg⟩;simp only[QR,ra,Z1n,Z1o];refine⟨λh1=>?_,λh1 w' hr=>⟨?_,hr.mod⟩⟩
 ·rw[Z1en os i O]at hg;generalize os.getD i oD=o at hg⊢
  (repeat refine⟨O,?_⟩)
  intro b;refine⟨[.b (decide (0<=o.1/\o.1<=65535))],rfl,λ_ w' _=>Zi4 w' _ _ _,?_⟩;simp only[QR,ra,ϡ];simp only[optE]at hg;refine⟨λh2 w' hr=>⟨by rw[<- hg,ϛ h2],hr.mod⟩,λh2=>?_⟩;rw[ϝ (qy9.1 h2)]at hg;refine⟨λh3 w' hr=>⟨by rw[<- hg,ϝ h3],hr.mod⟩,λh3=>?_⟩;rw[ϛ h3]at hg;refine⟨λh4 w' hr=>⟨by rw[<- hg,ϝ h4],hr.mod⟩,λh4=>?_⟩;rw[ϛ h4]at hg;exact⟨O,O,⟨i+1,_,o.1,rfl,O,hg⟩,O⟩
 have:i=os.length:=O;subst this;rw[Ϻ]at hg;rw[<- hg];rfl
def Zuk(w:ϑ)(m:Msg)(v:ϒ)(hv:Z3q w v m.opts)(hl:m.opts.length<1099511627776)(ht:m.tok.length<1099511627776)(hp:m.pay.length<1099511627776): ϕ ϐ 166 #[mV m (sc1 v)] w λe w'=>e=.returned (.int .i64 (chk m))/\Mod [] w w':=by
 refine Wr (J:=[.i m.kind,.i m.code,.i m.id,.s m.tok,.v v,.r (m.opts.map encO),.s m.pay]) Zdu ?_;simp only[QR,ra];intro b;refine⟨[.b (decide (0<=m.kind/\m.kind<=3))],rfl,λ_ w' _=>Zi4 w' _ _ _,?_⟩;simp only[QR,ra,ϡ];refine⟨λh w' hr=>⟨by rw[Zx3 h],hr.mod⟩,λh=>?_⟩;replace h:=qy9.1 h;refine⟨[.b (decide (0<=m.code/\m.code<=255))],rfl,λ_ w' _=>Zi4 w' _ _ _,?_⟩;simp only[QR,ra,ϡ];refine⟨[.b (decide (0<=m.id/\m.id<=65535))],rfl,λ_ w' _=>Zi4 w' _ _ _,?_⟩;simp only[QR,ra,ϡ];refine⟨λh1 w' hr=>⟨by rw[Zk0 h O],hr.mod⟩,λh1=>?_⟩;refine⟨λh2 w' hr=>⟨by rw[Zx4 h O O],hr.mod⟩,λh2=>?_⟩;rw[Zx5 h O O];refine⟨[.i (optE 0 m.opts)],rfl,λ_ w' hr=>Z140 w' v m.opts (hr.at_ 1 rfl) hl,?_⟩;simp only[QR,ra,ϡ];refine⟨λh3 w' hr=>⟨by rw[ϝ h3],hr.mod⟩,λh3=>?_⟩;rw[ϛ h3];refine⟨O,λh4 w' hr=>⟨?_,hr.mod⟩,λh4 w' hr=>⟨?_,hr.mod⟩⟩
 ·rw[ϝ];rcases h4 with⟨h5,h6⟩|⟨h5,h6⟩
  ·refine⟨h5,?_⟩;simp only[Ϝ]at h6;by_cases h7:m.tok=[]
   ·exact .inr (.inl λh8=>h6 ⟨h7,h8⟩)
   exact .inl h7
  exact⟨h5,.inr (.inr (by intro h8;rw[h8]at h6;simp at h6))⟩
 rw[ϛ];rintro⟨h5,h6⟩;apply h4;rcases h6 with h6|h6|h6
 ·exact .inl ⟨h5,λh=>h6 (Ϝ.1 h).1⟩
 ·exact .inl ⟨h5,λh=>h6 (Ϝ.1 h).2⟩
 exact .inr ⟨h5,by have:=ϲ.2 h6;omega⟩
def Zcb(w:ϑ)(m:Msg)(v:ϒ)(hv:Z3q w v m.opts)(hl:m.opts.length<1099511627776): ϕ ϐ 71 #[mV m (sc1 v)] w λe w'=>e=.returned (.int .i64 (chk m))/\Mod [] w w':=by
 refine Wr (J:=[.i m.kind,.i m.code,.i m.id,.s m.tok,.v v,.r (m.opts.map encO),.s m.pay]) Z54 ?_;simp only[QR,ra];intro b;refine⟨λh w' hr=>⟨by rw[Zx3 h],hr.mod⟩,λh=>?_⟩;refine⟨λh1 w' hr=>⟨by rw[Zk0 O O],hr.mod⟩,λh1=>?_⟩;refine⟨λh2 w' hr=>⟨by rw[Zk0 O O],hr.mod⟩,λh2=>?_⟩;refine⟨λh3 w' hr=>⟨by rw[Zx4 O O O],hr.mod⟩,λh3=>?_⟩;rw[Zx5 O O O];refine⟨λvs=>∃(i:Nat) (x:V) (was:Int),vs=[x,.i i]/\i<=m.opts.length/\optE was (m.opts.drop i)=optE 0 m.opts/\(i=0/\was=0\/0<i/\was=(m.opts.getD (i - 1) oD).1),λvs=>(m.opts.length - (vs.getD 1 (.i 0)).toI).toNat,⟨0,_,0,rfl,O,rfl,.inl ⟨rfl,rfl⟩⟩,?_⟩;rintro _ - ⟨i,x,was,rfl,hi,hg,hw⟩;simp only[QR,ra,Z1n,Z1o];refine⟨λh4=>?_,λh4=>?_⟩
 ·rw[Z1en m.opts i O]at hg;have e1:((i:Int) - 1).toNat=i - 1:=O;rw[e1];have hw':i+1≠0/\(m.opts.getD i oD).1=(m.opts.getD (i+1 - 1) oD).1:=O1;generalize m.opts.getD i oD=o at hg hw'⊢
  (repeat refine⟨O,?_⟩)
  intro b;simp only[optE]at hg;refine⟨λh5 w' hr=>⟨by rw[ϛ h5]at hg;rw[<- hg];rfl,hr.mod⟩,λh5=>?_⟩;rw[ϝ (qy9.1 h5)]at hg
  (repeat refine⟨O,?_⟩)
  refine⟨λh6 w' hr=>⟨?_,hr.mod⟩,λh6=>?_⟩
  ·rw[ϝ O]at hg;rw[<- hg];rfl
  rw[ϛ O]at hg;refine⟨λh7 w' hr=>⟨by rw[ϝ h7]at hg;rw[<- hg];rfl,hr.mod⟩,λh7=>?_⟩;rw[ϛ h7]at hg;exact⟨O,O,⟨i+1,_,o.1,rfl,O,hg,.inr ⟨O,hw'.2⟩⟩,O⟩
 have:i=m.opts.length:=O;subst this;rw[Ϻ]at hg;have hg:optE 0 m.opts=0:=by rw[<- hg];rfl
 rw[ϛ (λh=>h hg)];have e2:(m.code=0/\(m.tok≠[]\/m.pay≠[]\/m.opts≠[]))↔(m.code=0/\((¬m.tok=[]\/¬m.pay=[])\/0<(m.opts.length:Int))):=by
  have:m.opts≠[]↔0<(m.opts.length:Int):=by rw[ne_eq,<- ϓ];omega
  rw[this,or_assoc]
 exact⟨λh5 w' hr=>⟨by rw[ϝ (e2.2 h5)],hr.mod⟩,λh5 w' hr=>⟨by rw[ϛ (λh=>h5 (e2.1 h))],hr.mod⟩⟩
def Z4d:List By->By
 | []=>[]
 | [x]=>x
 | x::y::xs=>x++47::Z4d (y::xs)
def Z4r{s:By}{f:Bool}:chkT s f=0↔s≠[]/\(s.length<=60/\(lev s).length<=6)/\Z3e s=ϫ/\badL f (lev s)=Ϣ:=by
 unfold chkT;by_cases h1:s=[]
 ·rw[ϝ h1];simp[h1]
 rw[ϛ h1];by_cases h2:60<(s.length:Int)\/6<((lev s).length:Int)
 ·rw[ϝ h2];refine⟨λh=>ϟ h U,λh=>O⟩
 rw[ϛ h2];by_cases h3:Z3e s=ϫ
 ·rw[ϝ h3];cases h4:badL f (lev s)
  ·exact⟨λ_=>⟨h1,O,h3,rfl⟩,λ_=>rfl⟩
  exact⟨λh=>ϟ h U,λh=>ϟ h.2.2.2 O1⟩
 rw[ϛ h3];exact⟨λh=>ϟ h U,λh=>ϟ h.2.2.1 h3⟩
variable(n:Int)
def noN(os:List Opt):List Opt:=os.filter λo=>decide (o.1≠n)
def upTo(os:List Opt):List Opt:=os.takeWhile λo=>decide (o.1<=n)
def past(os:List Opt):List Opt:=os.dropWhile λo=>decide (o.1<=n)
def Z19i(os:List Opt)(n:Int)(vs:List By):List Opt:=upTo n (noN n os)++vs.map (λv=>(n,v))++past n (noN n os)
variable{os:List Opt}
def Z1hq{n:Int}(h:∀o∈os,o.1≠n):noN n os=os:=by rw[noN,List.filter_eq_self];simpa using h
def Zm(os:List Opt):List By:=(os.filter λo=>decide (o.1=n)).map (·.2)
def Zrs{n:Int}(h:∀o∈os,o.1≠n):Zm n os=[]:=by rw[Zm,ϣ,List.filter_eq_nil_iff];simpa using h
def Zx6(a b:List Opt):Zm n (a++b)=Zm n a++Zm n b:=by simp[Zm]
def Zx7{n:Int}:∀{l:List Opt} {k:Nat},k<=l.length->(∀j,j<k->(l.getD j oD).1<=n)->(k<l.length->n<(l.getD k oD).1)->l.take k=upTo n l/\l.drop k=past n l
 | [],k,hk,_,_=>by simp[upTo,past]
 | o::l,0,_,_,h2=>by have h:=h2 O1;simp only[ϳ]at h;have:¬o.1<=n:=O;simp[upTo,past,Ϸ,ϗ,this]
 | o::l,k+1,hk,h1,h2=>by have h:=h1 0 O;simp only[ϳ]at h;obtain⟨e1,e2⟩:=Zx7 (by simpa using hk) (λj hj=>by have:=h1 (j+1) O;simpa using this) (λhj=>by have:=h2 (by simpa using hj);simpa using this);simp only[upTo,past]at e1 e2⊢;simp[Ϸ,ϗ,h,e1,e2]
def Zll(v:By):Int×Int:=if 3<(v.length:Int)then(0,1)else((beN v 0:Nat),0)
def Z3m(os:List Opt):Int×Int:=match Zm n os with | []=>(0,5)|v::_=>Zll v
def Z33:By:=(numB 3 n).dropWhile λc=>c == 0
def Z1f(os:List Opt):By×Int :=
 if Zm 11 os=[]then([],5)
 else if chkT (Z4d (Zm 11 os)) Ϣ=0 then
  (if(Zm 11 os).any (λv=>v.any λc=>c == 47)=ϫ then([],1)else(Z4d (Zm 11 os),0))
 else([],chkT (Z4d (Zm 11 os)) Ϣ)
def Z19j(l:By):beN (l.dropWhile λc=>c == 0) 0=beN l 0:=by
 induction l with
 | nil=>rfl
 | cons c l ih =>
  rw[ϗ];split
  ·rename_i h;have:c=0:=by simpa using h
   subst this;rw[ih];rfl
  rfl
def Zlm{l:By}{c:UInt8}:(l++[c]).dropWhile (λc=>c == 0)=if(l.dropWhile λc=>c == 0)=[]then(if c=0 then[]else[c])else(l.dropWhile λc=>c == 0)++[c]:=by
 induction l with
 | nil=>by_cases h:c=0<;>simp[h]
 | cons x l ih =>
  by_cases h:x=0
  ·subst h;simpa[ϗ]using ih
  simp[h]
variable(k:Nat)
def Zmv(n:Nat):(numB (k+1) (n:Int)).dropWhile (λc=>c == 0) = if((numB k ((n / 256:Nat):Int)).dropWhile λc=>c == 0)=[]then(if n % 256=0 then[]else[UInt8.ofNat (n % 256)])else((numB k ((n / 256:Nat):Int)).dropWhile λc=>c == 0)++[UInt8.ofNat (n % 256)]:=by
 rw[Zrm,Zlm];have:(UInt8.ofNat (n % 256)=0)↔n % 256=0:=by
  constructor
  ·intro h;have:=congrArg UInt8.toNat h;simpa using this
  intro h;rw[h];rfl
 simp only[this]
def Zeh(n:Nat)(h:n<pw k):((numB k (n:Int)).dropWhile λc=>c == 0)=[]↔n=0:=by
 constructor
 ·intro h1;have:=Z19j (numB k (n));rw[h1,Zwy k n h]at this;exact this.symm
 rintro rfl;induction k with
 | zero=>rfl
 | succ k ih =>
  rw[Zmv,ϝ,ϝ rfl];exact ih (by have:=Zb6 (ϱ k);exact this)
def Z102(n:Nat)(h:n<pw (k+1)):(numB (k+1) (n:Int)).dropWhile (λc=>c == 0)=if n=0 then[]else((numB k ((n / 256:Nat):Int)).dropWhile λc=>c == 0)++[UInt8.ofNat (n % 256)]:=by
 have hk:n / 256<pw k:=by have h:n<256*pw k:=h;omega
 rw[Zmv];by_cases h0:n / 256=0
 ·rw[ϝ ((Zeh k _ hk).2 h0),(Zeh k _ hk).2 h0];by_cases h1:n=0
  ·subst h1;rfl
  rw[ϛ O,ϛ h1];rfl
 rw[ϛ (λe=>h0 ((Zeh k _ hk).1 e)),ϛ O]
open Go Go.Shelf Go.RowKit Go.Lib
def Z141:Zft ϐ 314:=by
 intro w b n c i vb vc hi hc hb;go_enter Tryz.func314,Tryz.ntmps314;go_wp2
 all_goals (go_ret;exact⟨rfl,rfl⟩)
def Z19k:Zmj ϐ 314 72:=by
 intro w b n c vb m vc hm hc hb v' w' hrun;have hz1:¬((m)=0):=O;go_enter Tryz.func314,Tryz.ntmps314
 go_wp2_with (at_builtin;refine Lib.wpList_append_run _ rfl _ _ _ _ rfl _ _ rfl rfl _ _ (hrun _) ?_)
 all_goals (go_ret;exact⟨rfl,rfl⟩)
def Z103:Zbm ϐ 314 333 72 2:=by
 intro w g n c i vb m vc cur1 cur2 hi hm hroom hc63 hov hcp1 hcp2;obtain⟨hz1,hz2,hw1,hw2,hb1,hin,htn,htn2,hb3,-⟩:=insN hi hm O;have hb2:¬(c=i+m):=O;have hb4:¬(c=i):=O;have mixed:Tryz.prog.follows Departure.mixedOrders=ϫ:=O2;go_enter Tryz.func314,Tryz.ntmps314
 go_wp2_with (simp only)
 go_region_law_o (refine step_copy_runI rfl _ _ 72 72 rfl _ _ O1 O1 (hcp1 _ _ _) ?_)
 go_wp2_with (at_builtin;refine wpList_copy_runI _ rfl _ _ 72 72 rfl _ _ rfl rfl (hcp2 _ rfl _ _) ?_)
 go_ret
 first|exact⟨rfl,rfl⟩|exact⟨rfl,by rw[setRow_setRow]⟩
def Z142:Zfu ϐ 314 127 72 3 2:=by
  intro w g n c i vb m vc G ROW cur2 cur3 hi hm hnc hroom hGn hG63 hrz hcpA hcpB Q hfin;obtain⟨hz1,hz2,hw1,-,hb1,hin,htn,-,-,hb3⟩:=insN hi hm O;have hz3:(c)<(n)+(m):=O;have hGi:¬(G=i):=O;have hGim:¬(G=i+m):=O;have hci:¬(c=i):=O;have mixed:Tryz.prog.follows Departure.mixedOrders=ϫ:=O2;have hE1:((w.alloc (.cells ROW 127)).drew).heap=(w.drew.alloc (.cells ROW 127)).heap:=rfl;have hF1:(((w.alloc (.cells ROW 127)).drew.setRow w.heap.size cur2).drew).heap=((w.drew.alloc (.cells ROW 127)).setRow w.heap.size cur2).heap:=rfl;go_enter Tryz.func314,Tryz.ntmps314;go_wp2_with (first
    | (at_builtin;refine Lib.wpList_append_run _ rfl _ _ _ _ rfl _ _ rfl rfl _ _ (hrz _) ?_)
    | (at_builtin;refine wpList_copy_runI _ rfl _ _ 72 72 rfl _ _ rfl rfl (hcpA _ hE1 _ _) ?_)
    | (at_builtin;refine wpList_copy_runI _ rfl _ _ 72 72 rfl _ _ rfl rfl (hcpB _ hF1 _ _ _) ?_))
  go_region_law_o (refine step_copy_runI rfl _ _ 72 72 rfl (.slice (Ϫ ⟨w.heap.size,(i+m)*2,Ϟ⟩) (n+m - (i+m)) (G - (i+m))) (.slice (Ϫ ⟨g,i*2,Ϟ⟩) (n - i) (c - i)) O7 O7 (hcpB _ hF1 3 (G - (i+m)) (c - i)) ?_)
  go_wp2
  exact hfin _ rfl rfl rfl rfl
def Z143(w:ϑ)(s v:ϒ)(i:Nat)(R V:List (List ϒ))(hs:owns w s 127 [.int .i64,.str] R)(hv:owns w v 127 [.int .i64,.str] V)(hne:∀k,Z1 s k->Z1 v k->False)(hi:i<=R.length)(hb:(R.length+V.length)*24<=140737488355328): ϕ ϐ 314 #[s,.int .i64 i,v] w λe w'=>∃v',e=.returned v'/\Zc8 w w' s v' 127 [.int .i64,.str] (R.take i++V++R.drop i) :=
 Zjo (K:=2) Tryz.underlying72 Tryz.underlying3 O2 rfl U U (λargs w=>run_callFunc_extern Tryz.func333 O2 O2 O2 (e:=Extern.SlicesOverlaps.overlaps #[72,72] #[4]) O2 args w) Z141 Z19k Z103 Z142 w s v i R V hs hv hne hi hb
def Z144{was:Int}{o:Opt}{l:List Opt}:optE was (o::l)=0↔(0<=o.1/\o.1<=65535)/\was<=o.1/\o.2.length<=60/\optE o.1 l=0:=by
 simp only[optE];constructor
 ·intro h;split at h
  ·split at h
   ·exact ϟ h U
   split at h
   ·exact ϟ h U
   exact⟨O5,O,O,h⟩
  exact ϟ h U
 rintro⟨h1,h2,h3,h4⟩;rw[ϝ h1,ϛ O,ϛ O,h4]
def Z1eo(os:List Opt)(i:Nat)(h:i<os.length):os.take (i+1)=os.take i++[os.getD i oD]:=by rw[ϧ,qy1,qy7 h];rfl
abbrev kO:List Kd:=[.int .i64,.str]
abbrev Z145(w:ϑ)(v:ϒ)(l:List Opt):Prop:=owns w v 127 kO (l.map encO)
def Z19l(w:ϑ)(v:ϒ)(l:List Opt)(hv:Z3q w v l)(hl:l.length<1000000000):ϕ ϐ 332 #[sc1 v] w λe w'=>∃v',e=.returned (sc1 v')/\Z145 w' v' l/\(∀k,Z1 v' k->w.heap.size<=k)/\Mod [] w w':=by refine Wr (J:=[.v v,.r (l.map encO)]) Z3d ?_;simp only[QR,ra,List.nil_append];exact⟨λh w' hr=>(by have hn:=ϣ.1 (Z61 h hv);subst hn;exact⟨_,rfl,hr.at_ 0 rfl,hr.fresh 0 rfl,hr.mod⟩),λh v1=>⟨O,λv2 w' hr=>⟨v2,rfl,hr.at_ 0 rfl,hr.fresh 0 rfl,hr.mod⟩⟩⟩
def Z1hr(w:ϑ)(s v:ϒ)(l x:List Opt)(i:Nat)(hs:Z145 w s l)(hv:Z145 w v x)(hne:∀k,Z1 s k->Z1 v k->False)(hi:i<=l.length)(hl:l.length<1000000000)(hx:x.length<1000000000): ϕ ϐ 314 #[sc1 s,.int .i64 i,sc1 v] w λe w'=>∃v',e=.returned (sc1 v')/\Z145 w' v' (l.take i++x++l.drop i)/\(∀k,Z1 v' k->Z1 s k\/w.heap.size<=k)/\Mod s.ownBlock.toList w w':=by rw[hs.reads.sc1,hv.reads.sc1];refine(Z143 w s v i _ _ hs hv hne (by simpa using hi) O3).mono ?_;rintro e w' ⟨v',rfl,g1,g2,g3⟩;refine⟨v',by rw[g1.reads.sc1],?_,g2,Mod.of_grown g3 λk hk=>.inl (Ϲ.2 hk)⟩;rw[Z145,Ϛ,Ϛ,δ,List.map_drop];exact g1
def Z19m(R:List Opt)(m:Nat)(x:Opt):(R.map encO).set m [.int .i64 x.1,.string ⟨x.2.toArray⟩]=(R.set m x).map encO:=by rw[List.map_set];rfl
def Zx8(os:List Opt)(i:Nat)(h:i<os.length):noN n (os.take (i+1))=noN n (os.take i)++(if(os.getD i oD).1=n then[]else[os.getD i oD]):=by rw[Z1eo os i h,noN,noN,List.filter_append];generalize os.getD i oD=o;by_cases h1:o.1=n<;>simp[h1]
def Z1ep(os:List Opt):(noN n os).length<=os.length:=ϯ _ _
def Z146{n:Int}(h:∀j,j<os.length->(os.getD j oD).1≠n):noN n os=os:=by refine Z1hq λo ho=>?_;obtain⟨i,hi,rfl⟩:=Ϥ ho;have:=h i hi;rwa [qy1,qy7 hi]at this
def Zei(w:ϑ)(m:Msg)(v u:ϒ)(n:Int)(us:List By)(hv:Z3q w v m.opts)(hu:Zjb w u us)(hl:m.opts.length<1000000000)(hul:us.length<1000000000): ϕ ϐ 276 #[mV m (sc1 v),.int .i64 n,sc1 u] w λe w'=>∃v',e=.returned (mV m (sc1 v'))/\Z3q w' v' (Z19i m.opts n us)/\newV w.heap.size v'/\Mod [] w w':=by
 refine Wr (J:=[.i m.kind,.i m.code,.i m.id,.s m.tok,.v v,.r (m.opts.map encO),.s m.pay,.i n,.v u,.r (us.map Z1k)]) Zha ?_;simp only[QR,ra,Z1n,Z1o,Zj];intro b1 b2 b3 b4 b5 w1 hr;refine(Z19l w1 v m.opts (hr.at_ 5 rfl) hl).mono ?_;rintro e w2 ⟨q,rfl,a1,f1,m1⟩;refine⟨[.v q,.r (m.opts.map encO)],rfl,rfl,m1,qy5 _,qy2.2 ⟨⟨a1,λk hk=>.inl (f1 k hk)⟩,qy5 _⟩,Z2,?_⟩;clear hr a1 f1 m1;simp only[QR,ra,Z1n,Z1o,Zj];intro b6;generalize hos:m.opts=os at hl⊢;refine⟨λvs=>∃u',vs=[.i 0,.i 0,.i 0,.i 0,.i 0,.i 0,.i 0,.i 0,.i 0,.i 0,.v u',.i n,.r ((noN n os).map encO)],?_,?_⟩
 ·refine⟨λvs=>∃(x:V) (i:Nat),vs=[x,.i i,.i n]/\i<=os.length/\∀j,j<i->(os.getD j oD).1≠n,λvs=>(os.length - (vs.getD 1 (.i 0)).toI).toNat,⟨_,0,rfl,O,λj hj=>O⟩,?_⟩;rintro _ - ⟨x,i,rfl,hi,hn⟩;simp only[QR,ra,Z1n,Z1o,Zj];refine⟨λh1=>?_,λh1=>?_⟩
  ·(repeat refine⟨O,?_⟩)
   intro b7;refine⟨λh2=>⟨λh3=>O,λh3=>⟨O,O,?_⟩⟩,λh2=>?_⟩
   ·refine⟨λvs=>∃(a j:Nat) (R:List Opt),vs=[.i a,.i j,.r (R.map encO),.i n]/\a<j/\j<=os.length/\R.length=os.length/\R.take a=noN n (os.take j)/\R.drop j=os.drop j,λvs=>(os.length - (vs.getD 1 (.i 0)).toI).toNat,
     ⟨i,i+1,os,rfl,O,O,rfl,?_,rfl⟩,?_⟩
    ·rw[Zx8 n os i O,ϝ h2,Ϡ,Z146];intro j hj;simp only[Ϙ]at hj;have:=hn j O;rw[qy1]at this⊢;rwa [Ϩ O]
    rintro _ - ⟨a,j,R,rfl,haj,hj,hR,ht,hd⟩;simp only[QR,ra,Z1n,Z1o,Zj,hR];have hg:j<os.length->R.getD j oD=os.getD j oD:=λh=>by have:=congrArg (λl=>l[0]?) hd;simp only[List.getElem?_drop,Nat.add_zero]at this;rw[qy1,qy1,this]
    refine⟨λh3=>?_,λh3=>?_⟩
    ·(repeat refine⟨O,?_⟩)
     intro b8 b9;have hjl:j<os.length:=O;have hs1:=Zx8 n os j hjl;have hg:=hg hjl;have hd':R.drop (j+1)=os.drop (j+1):=by have:=congrArg (λl=>l.drop 1) hd;simpa[List.drop_drop,Nat.add_comm]using this
     refine⟨λh4=>?_,λh4=>?_⟩
     ·(repeat refine⟨O,?_⟩)
      refine⟨⟨a+1,j+1,R.set a (R.getD j oD),by rw[<- Z19m];rfl,O,O,by simpa using hR,?_,by rw[List.drop_set_of_lt O];exact hd'⟩,O⟩;rw[hs1,ϛ (by rw[<- hg];exact h4),<- ht,<- hg,Z1eo _ _ O3];congr 1
      ·rw[List.take_set_of_le (Ϧ _)]
      rw[qy1,List.getElem?_set_self O];rfl
     (repeat refine⟨O,?_⟩)
     refine⟨⟨a,j+1,R,rfl,O,O,hR,?_,hd'⟩,O⟩;rw[hs1,ϝ (by rw[<- hg];exact qy9.1 h4),Ϡ];exact ht
    have hje:j=os.length:=O;subst hje;rw[ϔ]at ht;refine⟨O,O,by simp only[qy11,Ϙ,List.length_replicate,qy3,hR];omega,λu'=>⟨u',?_⟩⟩;congr 1
    simp only[List.cons.injEq,true_and,and_true];congr 1;rw[List.take_append_of_le_length O3,List.take_take,Nat.min_self,<- δ,ht]
   (repeat refine⟨O,?_⟩)
   refine⟨⟨_,i+1,rfl,O,λj hj=>?_⟩,O⟩;by_cases hji:j=i
   ·subst hji;exact h2
   exact hn j O
  have hie:i=os.length:=O;subst hie;refine⟨q,?_⟩;rw[Z146 hn]
 rintro _ - ⟨u',rfl⟩;generalize hN:noN n os=R;have hRl:R.length<1000000000:=by have:=Z1ep n os;rw[hN]at this;omega
 simp only[QR,ra,Z1n,Z1o,Zj];refine⟨λvs=>∃k:Int,vs=[.i 0,.i 0,.i n,.i 0,.i k]/\((k=-1/\∀j,j<R.length->(R.getD j oD).1<=n)\/∃i:Nat,k=i/\i<R.length/\(∀j,j<i->(R.getD j oD).1<=n)/\n<(R.getD i oD).1),?_,?_⟩
 ·refine⟨λvs=>∃(x:V) (i:Nat),vs=[x,.i i,.i n]/\i<=R.length/\∀j,j<i->(R.getD j oD).1<=n,λvs=>(R.length - (vs.getD 1 (.i 0)).toI).toNat,⟨_,0,rfl,O,λj hj=>O⟩,?_⟩;rintro _ - ⟨x,i,rfl,hi,hn⟩;simp only[QR,ra,Z1n,Z1o,Zj];refine⟨λh1=>?_,λh1=>⟨-1,rfl,.inl ⟨rfl,λj hj=>hn j O⟩⟩⟩
  (repeat refine⟨O,?_⟩)
  intro b7;refine⟨λh2=>⟨i,rfl,.inr ⟨i,rfl,O,hn,h2⟩⟩,λh2=>?_⟩
  (repeat refine⟨O,?_⟩)
  refine⟨⟨_,i+1,rfl,O,λj hj=>?_⟩,O⟩;by_cases hji:j=i
  ·subst hji;omega
  exact hn j O
 rintro _ - ⟨k,rfl,hk⟩;simp only[QR,ra,Z1n,Z1o,Zj];refine⟨λvs=>∃k:Nat,vs=[.i k]/\k<=R.length/\(∀j,j<k->(R.getD j oD).1<=n)/\(k<R.length->n<(R.getD k oD).1),⟨λh1=>?_,λh1=>?_⟩,?_⟩
 ·rcases hk with⟨h2,h3⟩|⟨i,h2,-⟩
  ·exact⟨R.length,rfl,Ϧ _,h3,λh=>O⟩
  omega
 ·rcases hk with⟨h2,h3⟩|⟨i,h2,h3,h4,h5⟩
  ·omega
  subst h2;exact⟨i,rfl,O,h4,λ_=>h5⟩
 rintro _ - ⟨i,rfl,hi,h1,h2⟩;obtain⟨e1,e2⟩:=Zx7 hi h1 h2;simp only[QR,ra,Z1n,Z1o,Zj];refine⟨λvs=>∃(v1:ϒ) (i:Nat),vs=[.v v1,.r (((us.take i).map λx=>((n,x))).map encO),.i i]/\i<=us.length,λvs=>(us.length - (vs.getD 2 (.i 0)).toI).toNat,⟨_,0,rfl,O⟩,?_⟩;rintro _ - ⟨v1,j,rfl,hj⟩;simp only[QR,ra,Z1n,Z1o,Zj];refine⟨λh3=>?_,λh3 w3 hr=>?_⟩
 ·(repeat refine⟨O,?_⟩)
  intro v2;refine⟨O3,λv3=>⟨O,O,⟨v3,j+1,?_,O⟩,O⟩⟩;rw[ϧ,Ϛ,Ϛ,qy7 O,qy1,qy7 O];rfl
 have:j=us.length:=O;subst this;rw[ϔ]at hr;refine(Z1hr w3 u' v1 R _ i (hr.at_ 1 rfl) (hr.at_ 0 rfl) (λk h5 h6=>hr.sep.disj (i:=1) (j:=0) rfl rfl O (.inl rfl) h5 h6) hi hRl (by simpa using hul)).mono ?_;rintro e w4 ⟨v',rfl,g1,g2,g3⟩;refine⟨[.v v',.r ((R.take i++(us.map λx=>((n,x)))++R.drop i).map encO)],rfl,rfl,g3.mono λk hk=>.inl (by unfold Zn;exact List.mem_append_right _ (Z14 (i:=28) O1 (Ϲ.1 hk))),qy5 _,qy2.2 ⟨⟨g1,λk hk=>?_⟩,qy5 _⟩,Z2,by intro w5 hr5;refine⟨v',rfl,?_,hr5.fresh 0 rfl,hr5.mod⟩;have:=(hr5.at_ 0 rfl).reads;rw[e1,e2]at this;rw[Z3q,Z19i,hN];exact this⟩;rcases g2 k hk with h5|h5
 ·exact .inr (.inr (Z14 (i:=28) O1 h5))
 exact .inl h5
end Go.Proofs.Y
namespace Go.Proofs
open Go.Shelf
def Tryz.lays144_ren:Go.Shelf.Ren:=⟨fun|144=>236|143=>272|219=>308|217=>329|225=>307|224=>306|267=>330|266=>352|314=>353|n=>n,fun|9=>9|4=>4|3=>3|5=>5|46=>220|146=>344|51=>340|n=>n,fun|1=>0|n=>n⟩
def Tryz.lays144:Go.Proofs.Lays.n144 ϐ Tryz.lays144_ren:={
 mixed:=O2
 f143:=qF Tryz.func272 O2
 f144:=qF Tryz.func236 O2
 f217:=qF Tryz.func329 O2
 f219:=qF Tryz.func308 O2
 f224:=qF Tryz.func306 O2
 f225:=qF Tryz.func307 O2
 f266:=qF Tryz.func352 O2
 f267:=qF Tryz.func330 O2
 f314:=qF Tryz.func353 O2
 t3:=Tryz.underlying3
 a3:=Tryz.isAgg3
 z3:=Tryz.sizeOf3
 v3:=Tryz.zeroValue3
 t4:=Tryz.underlying4
 a4:=Tryz.isAgg4
 z4:=Tryz.sizeOf4
 v4:=Tryz.zeroValue4
 t5:=Tryz.underlying5
 a5:=Tryz.isAgg5
 z5:=Tryz.sizeOf5
 v5:=Tryz.zeroValue5
 t9:=Tryz.underlying9
 a9:=Tryz.isAgg9
 z9:=Tryz.sizeOf9
 v9:=Tryz.zeroValue9
 t46:=Tryz.underlying220
 a46:=Tryz.isAgg220
 z46:=Tryz.sizeOf220
 v46:=Tryz.zeroValue220
 t51:=Tryz.underlying340
 a51:=Tryz.isAgg340
 z51:=Tryz.sizeOf340
 v51:=Tryz.zeroValue340
 t146:=Tryz.underlying344
 a146:=Tryz.isAgg344
 z146:=Tryz.sizeOf344
 v146:=Tryz.zeroValue344
 g1:=by kernel_rfl }
def Tryz.lays161_ren:Go.Shelf.Ren:=⟨fun|161=>315|231=>335|227=>269|233=>336|235=>337|228=>270|197=>327|151=>355|260=>351|152=>267|137=>304|119=>305|224=>306|225=>307|217=>329|266=>352|n=>n,fun|9=>9|4=>4|3=>3|5=>5|117=>286|116=>285|0=>0|124=>312|105=>324|21=>21|119=>355|46=>220|139=>358|138=>357|n=>n,fun|3=>1|4=>2|n=>n⟩
def Tryz.lays161:Go.Proofs.Lays.n161 ϐ Tryz.lays161_ren:={
 mixed:=O2
 f119:=qF Tryz.func305 O2
 f137:=qF Tryz.func304 O2
 f151:=qF Tryz.func355 O2
 f152:=qF Tryz.func267 O2
 f161:=qF Tryz.func315 O2
 f197:=qF Tryz.func327 O2
 f217:=qF Tryz.func329 O2
 f224:=qF Tryz.func306 O2
 f225:=qF Tryz.func307 O2
 f227:=qF Tryz.func269 O2
 f228:=qF Tryz.func270 O2
 f231:=qF Tryz.func335 O2
 f233:=qF Tryz.func336 O2
 f235:=qF Tryz.func337 O2
 f260:=qF Tryz.func351 O2
 f266:=qF Tryz.func352 O2
 t0:=Tryz.underlying0
 a0:=Tryz.isAgg0
 z0:=Tryz.sizeOf0
 v0:=Tryz.zeroValue0
 t3:=Tryz.underlying3
 a3:=Tryz.isAgg3
 z3:=Tryz.sizeOf3
 v3:=Tryz.zeroValue3
 t4:=Tryz.underlying4
 a4:=Tryz.isAgg4
 z4:=Tryz.sizeOf4
 v4:=Tryz.zeroValue4
 t5:=Tryz.underlying5
 a5:=Tryz.isAgg5
 z5:=Tryz.sizeOf5
 v5:=Tryz.zeroValue5
 t9:=Tryz.underlying9
 a9:=Tryz.isAgg9
 z9:=Tryz.sizeOf9
 v9:=Tryz.zeroValue9
 t21:=Tryz.underlying21
 a21:=Tryz.isAgg21
 z21:=Tryz.sizeOf21
 v21:=Tryz.zeroValue21
 t46:=Tryz.underlying220
 a46:=Tryz.isAgg220
 z46:=Tryz.sizeOf220
 v46:=Tryz.zeroValue220
 t105:=Tryz.underlying324
 a105:=Tryz.isAgg324
 z105:=Tryz.sizeOf324
 v105:=Tryz.zeroValue324
 t116:=Tryz.underlying285
 a116:=Tryz.isAgg285
 z116:=Tryz.sizeOf285
 t117:=Tryz.underlying286
 a117:=Tryz.isAgg286
 z117:=Tryz.sizeOf286
 v117:=Tryz.zeroValue286
 t119:=Tryz.underlying355
 a119:=Tryz.isAgg355
 z119:=Tryz.sizeOf355
 t124:=Tryz.underlying312
 a124:=Tryz.isAgg312
 z124:=Tryz.sizeOf312
 v124:=Tryz.zeroValue312
 t138:=Tryz.underlying357
 a138:=Tryz.isAgg357
 z138:=Tryz.sizeOf357
 v138:=Tryz.zeroValue357
 t139:=Tryz.underlying358
 a139:=Tryz.isAgg358
 z139:=Tryz.sizeOf358
 v139:=Tryz.zeroValue358
 g3:=O2
 g4:=by kernel_rfl }
def Tryz.lays156_ren:Go.Shelf.Ren:=⟨fun|156=>237|165=>273|166=>194|169=>153|240=>229|241=>309|276=>265|277=>331|n=>n,fun|31=>185|9=>9|3=>3|4=>4|0=>0|20=>20|72=>209|76=>242|70=>206|37=>207|75=>241|127=>245|164=>280|5=>5|80=>200|n=>n,fun|n=>n⟩
def Tryz.lays156:Go.Proofs.Lays.n156 ϐ Tryz.lays156_ren:={
 mixed:=O2
 f156:=qF Tryz.func237 O2
 f165:=qF Tryz.func273 O2
 f166:=qF Tryz.func194 O2
 f169:=qF Tryz.func153 O2
 f240:=qF Tryz.func229 O2
 f241:=qF Tryz.func309 O2
 f276:=qF Tryz.func265 O2
 f277:=qF Tryz.func331 O2
 t0:=Tryz.underlying0
 a0:=Tryz.isAgg0
 z0:=Tryz.sizeOf0
 v0:=Tryz.zeroValue0
 t3:=Tryz.underlying3
 a3:=Tryz.isAgg3
 z3:=Tryz.sizeOf3
 v3:=Tryz.zeroValue3
 t4:=Tryz.underlying4
 a4:=Tryz.isAgg4
 z4:=Tryz.sizeOf4
 v4:=Tryz.zeroValue4
 t9:=Tryz.underlying9
 a9:=Tryz.isAgg9
 z9:=Tryz.sizeOf9
 v9:=Tryz.zeroValue9
 t20:=Tryz.underlying20
 a20:=Tryz.isAgg20
 z20:=Tryz.sizeOf20
 v20:=Tryz.zeroValue20
 t31:=Tryz.underlying185
 a31:=Tryz.isAgg185
 z31:=Tryz.sizeOf185
 v31:=Tryz.zeroValue185
 t37:=Tryz.underlying207
 a37:=Tryz.isAgg207
 z37:=Tryz.sizeOf207
 v37:=Tryz.zeroValue207
 t70:=Tryz.underlying206
 a70:=Tryz.isAgg206
 z70:=Tryz.sizeOf206
 v70:=Tryz.zeroValue206
 t72:=Tryz.underlying209
 a72:=Tryz.isAgg209
 z72:=Tryz.sizeOf209
 v72:=Tryz.zeroValue209
 t75:=Tryz.underlying241
 a75:=Tryz.isAgg241
 z75:=Tryz.sizeOf241
 v75:=Tryz.zeroValue241
 t76:=Tryz.underlying242
 a76:=Tryz.isAgg242
 z76:=Tryz.sizeOf242
 v76:=Tryz.zeroValue242
 t127:=Tryz.underlying245
 a127:=Tryz.isAgg245
 z127:=Tryz.sizeOf245
 v127:=Tryz.zeroValue245
 t164:=Tryz.underlying280
 a164:=Tryz.isAgg280
 z164:=Tryz.sizeOf280
 v164:=Tryz.zeroValue280 }
end Go.Proofs
namespace Go.Proofs.Y
open Go.Sx
def Z1eq(w:ϑ)(s:By):ϕ ϐ 315 #[.string ⟨s.toArray⟩,.string ⟨#[0]⟩] w λe w'=>e=.returned (.string ⟨(s.dropWhile λc=>c == 0).toArray⟩)/\Mod [] w w':=by refine(Zb (Any.strings_TrimLeft_one Tryz.lays161 ⟨s.toArray⟩ 0 U w) rfl).mono ?_;rintro e w' ⟨rfl,rfl⟩;exact⟨rfl,Mod.refl _ _⟩
def Z147(s:By)(c:UInt8):decide (0<=Go.Lib.indexByte s c)=s.any λb=>b == c:=by rw[<- Go.Lib.contains_iff_indexByte,Ϯ];simp only[List.contains_iff_mem,List.any_eq_true,beq_iff_eq];exact⟨λh=>⟨c,h,rfl⟩,λ⟨x,h,e⟩=>e▸h⟩
def Z1k1(w:ϑ)(s:By):ϕ ϐ 236 #[.string ⟨s.toArray⟩,.string ⟨#[47]⟩] w λe w'=>e=.returned (.bool (s.any λc=>c == 47))/\Mod [] w w':=by refine(Zb (Any.strings_Contains_one Tryz.lays144 ⟨s.toArray⟩ 47 w) rfl).mono ?_;rintro e w' ⟨rfl,rfl⟩;exact⟨by rw[<- Z147],Mod.refl _ _⟩
def Z1c3:Builder.Extra ϐ Tryz.lays156_ren where
 sizeBuilder:=O2
 liesBuilder:=O2
 t5:=Tryz.underlying5
 a5:=Tryz.isAgg5
 z5:=Tryz.sizeOf5
 v5:=Tryz.zeroValue5
 infoByte:=O2
 cellsByte:=O2
 sizeByte:=O2
 neB5:=U
def Zg1:∀ps:List By,Go.Lib.join ps [47]=Z4d ps
 | []=>rfl
 | [x]=>Go.Lib.join_one x [47]
 | x::y::r=>by have:=Zg1 (y::r);rw[Go.Lib.join_cons]at this⊢;rw[Z4d,<- this];simp[Go.Lib.joinTail]
def Zrt:∀ps:List By,(ps.map Z1k).flatten=ps.map λp=>Value.string ⟨p.toArray⟩
 | []=>rfl
 | p::ps=>by simp only[List.map_cons,List.flatten_cons,Zrt ps];rfl
def Z19n(w:ϑ)(v:ϒ)(ps:List By)(hv:owns w v 9 [.str] (ps.map Z1k))(hl:ps.length<=140737488355328)(hb:(Z4d ps).length<=140737488355328): ϕ ϐ 237 #[sc1 v,.string ⟨#[47]⟩] w λe w'=>e=.returned (.string ⟨(Z4d ps).toArray⟩)/\Mod [] w w':=by
 rw[hv.reads.sc1];obtain⟨hk,hlen,ho⟩:=hv;rcases ho with⟨rfl,hn⟩|⟨g,c,cur,rfl,-,hg,hnc,hcm,hcs,htk⟩
 ·have:ps=[]:=by simpa using hn
  subst this;refine(Zb (Any.strings_Join_none Tryz.lays156 Z1c3 Ϟ 0 ⟨#[47]⟩ w) rfl).mono ?_;rintro e w' ⟨rfl,rfl⟩;exact⟨rfl,Mod.refl _ _⟩
 have hgs:g<w.heap.size:=by have:=(Array.getElem?_eq_some_iff.1 hg).1;exact this
 have e1:(ps.map λp=>(⟨p.toArray⟩:ByteArray)).map (λx=>x.data.toList)=ps:=by simp[Function.comp_def]
 have hfl:(ps.map Z1k).flatten=ps.map λp=>Value.string ⟨p.toArray⟩:=by exact Zrt ps
 rw[hfl]at htk;have:=Any.strings_Join Tryz.lays156 Z1c3 g 0 c (ps.map λp=>(⟨p.toArray⟩)) ⟨#[47]⟩ w (λj x hj=>?_) hgs (by simpa using hl) (by simpa using hnc) (by rw[e1];show(Go.Lib.join ps [47]).length<=_;rw[Zg1];exact hb)
 ·rw[e1,show(⟨#[47]⟩:ByteArray).data.toList=[47] from rfl,Zg1,qy3]at this;rw[qy3];refine(Zb this rfl).mono ?_;rintro e w' ⟨rfl,h⟩;exact⟨rfl,Mod.of_below h⟩
 rw[ϙ,Option.map_eq_some_iff]at hj;obtain⟨p,hp,rfl⟩:=hj;have h1:=congrArg (λl=>l[j]?) htk;simp only[ϙ,hp,Option.map_some]at h1;rw[Ϩ (by have:=(List.getElem?_eq_some_iff.1 hp).1;simpa using this)]at h1;simp only[World.cell?,hg,ε];simpa using h1
def Zg2(w:ϑ)(n:Int)(h:0<=n/\n<=16777215):ϕ ϐ 277 #[.int .i64 n] w λe w'=>e=.returned (.string ⟨(Z33 n).toArray⟩)/\Mod [] w w':=by refine Wp (J:=[.i n]) Zfm ?_;simp only[QR];refine⟨[.s (numB 3 n)],rfl,λ_ w' _=>Zox w' n 3 O O O,?_⟩;simp only[QR];refine⟨[.s (Z33 n)],rfl,λ_ w' _=>Z1eq w' _,?_⟩;simp only[QR];exact λw' hr=>⟨O6,hr.mod⟩
def Zaz:∀l:By,(l.dropWhile λc=>c == 0).length<=l.length
 | []=>Ϧ _
 | c::l=>by have:=Zaz l;rw[ϗ];split<;>simp only[ϻ]<;>omega
def Zmw:∀(k n:Nat) (w:ϑ),n<pw k->k<=7->ϕ ϐ 133 #[.int .i64 n] w λe w'=>e=.returned (.string ⟨((numB k (n:Int)).dropWhile λc=>c == 0).toArray⟩)/\Mod [] w w'
 | k,n,w,h,hk=>by
  have hp:=Zb6 hk;have hp7:pw 7=72057594037927936:=rfl;refine Wp (J:=[.i n]) Z8l ?_;simp only[QR,ra];refine⟨λh1 w' hr=>⟨?_,hr.mod⟩,λh1=>?_⟩
  ·rw[(Zeh k n h).2 O]
  obtain⟨k,rfl⟩:∃j,k=j+1:=by
   cases k with
   | zero=>exact ϟ h (by show ¬n<1;omega)
   | succ j=>exact⟨j,rfl⟩
  (repeat refine⟨O,?_⟩)
  have hk2:n / 256<pw k:=by have h:n<256*pw k:=h;omega
  have hl:((numB k ((n / 256))).dropWhile λc=>c == 0).length<=k:=by have:=Zaz (numB k ((n / 256)));rw[Zc]at this;exact this
  refine⟨[.s ((numB k ((n / 256))).dropWhile λc=>c == 0)],rfl,λ_ w' _=>Zmw k (n / 256) w' hk2 O,λv2=>?_⟩;simp only[QR,ra];refine⟨by simp at hl⊢;omega,λw' hr=>⟨?_,hr.mod⟩⟩;rw[Z102 k n h,ϛ O];have e:UInt8.ofNat (n % 256)=UInt8.ofNat ((n:Int) % 256).toNat:=by congr 1
  simp[e,Value.gI]
def Z148(w:ϑ)(n:Int)(h:0<=n/\n<=16777215):ϕ ϐ 133 #[.int .i64 n] w λe w'=>e=.returned (.string ⟨(Z33 n).toArray⟩)/\Mod [] w w':=by
 obtain⟨m,rfl⟩:∃m:Nat,n=m:=⟨n.toNat,O⟩
 exact Zmw 3 m w (by show m<16777216;omega) O
variable(n:Int)
def Zru(os:List Opt)(i:Nat)(h:i<os.length):Zm n (os.take (i+1))=Zm n (os.take i)++(if(os.getD i oD).1=n then[(os.getD i oD).2]else[]):=by rw[Z1eo os i h,Zx6];generalize os.getD i oD=o;by_cases h1:o.1=n<;>simp[Zm,h1]
def Zi5(os:List Opt):(Zm n os).length<=os.length:=by rw[Zm,qy3];exact ϯ _ _
variable{os:List Opt}
def Zmx{n:Int}{i:Nat}(h:i<os.length)(h1:∀j,j<i->(os.getD j oD).1≠n)(h2:(os.getD i oD).1=n):∃r,Zm n os=(os.getD i oD).2::r:=by
 have e:=(List.take_append_drop i os).symm;have e0:Zm n (os.take i)=[]:=by refine Zrs λo ho=>?_;obtain⟨j,hj,rfl⟩:=Ϥ ho;simp only[Ϙ]at hj;have:=h1 j O;rw[qy1,qy7 O]at this;rw[List.getElem_take];exact this
 have e1:Zm n (os.drop i)=(os.getD i oD).2::Zm n (os.drop (i+1)):=by rw[Z1en os i h];generalize os.getD i oD=o at h2;simp[Zm,h2]
 exact⟨_,by rw[e,Zx6,<- e,e0,e1];rfl⟩
def Zx9{n:Int}(h:∀j,j<os.length->(os.getD j oD).1≠n):Zm n os=[]:=by refine Zrs λo ho=>?_;obtain⟨j,hj,rfl⟩:=Ϥ ho;have:=h j hj;rwa [qy1,qy7 hj]at this
def Z19o(w:ϑ)(m:Msg)(v:ϒ)(n:Int)(hv:Z3q w v m.opts)(hl:m.opts.length<1000000000): ϕ ϐ 238 #[mV m (sc1 v),.int .i64 n] w λe w'=>e=.returned (.tuple #[.int .i64 (Z3m n m.opts).1,.int .i64 (Z3m n m.opts).2])/\Mod [] w w':=by
 refine Wr (J:=[.i m.kind,.i m.code,.i m.id,.s m.tok,.v v,.r (m.opts.map encO),.s m.pay,.i n]) Zds ?_;simp only[QR,ra,Z1n,Z1o,Zj];intro b1 b2;generalize m.opts=os at hl⊢;refine⟨λvs=>∃(x:V) (i:Nat),vs=[x,.i i,.i n]/\i<=os.length/\∀j,j<i->(os.getD j oD).1≠n,λvs=>(os.length - (vs.getD 1 (.i 0)).toI).toNat,⟨_,0,rfl,O,λj hj=>O⟩,?_⟩;rintro _ - ⟨x,i,rfl,hi,hn⟩;simp only[QR,ra,Z1n,Z1o,Zj];refine⟨λh1=>?_,λh1 w' hr=>⟨by rw[Z3m,Zx9 λj hj=>hn j O],hr.mod⟩⟩
 (repeat refine⟨O,?_⟩)
 intro b3;refine⟨λh2=>?_,λh2=>?_⟩
 ·obtain⟨r,e⟩:=Zmx O hn h2;have eu:Z3m n os=Zll (os.getD i oD).2:=by rw[Z3m,e]
  rw[eu];generalize (os.getD i oD).2=s;refine⟨λh3=>O,λ_=>⟨λh3 w' hr=>⟨by rw[Zll,ϝ h3],hr.mod⟩,λh3=>⟨λh4 w' hr=>⟨by subst h4;rfl,hr.mod⟩,λh4=>?_⟩⟩⟩;have eg:getR s 0 s.length=Zll s:=by have:=ϲ.2 h4;rw[getR,ϝ O,ϝ O,ϛ O,Zll,ϛ h3];simp
  exact⟨[.i (Zll s).1,.i (Zll s).2],rfl,λ_ w' _=>by have:=Zp0 w' s 0 s.length O;rw[eg]at this;exact this,by simp only[QR,ra];exact λw' hr=>⟨O6,hr.mod⟩⟩
 (repeat refine⟨O,?_⟩)
 refine⟨⟨_,i+1,rfl,O,λj hj=>?_⟩,O⟩;by_cases hji:j=i
 ·subst hji;exact h2
 exact hn j O
def Z149(s:By)(k:Nat)(h:k<s.length):beN (s.take (k+1)) 0=256*beN (s.take k) 0+(s.getD k 0).toNat:=by rw[ϧ,qy7 h,qy1,qy7 h];exact Zoy _ _ _
def Z14a(w:ϑ)(m:Msg)(v:ϒ)(n:Int)(hv:Z3q w v m.opts)(hl:m.opts.length<1000000000): ϕ ϐ 74 #[mV m (sc1 v),.int .i64 n] w λe w'=>e=.returned (.tuple #[.int .i64 (Z3m n m.opts).1,.int .i64 (Z3m n m.opts).2])/\Mod [] w w':=by
 refine Wr (J:=[.i m.kind,.i m.code,.i m.id,.s m.tok,.v v,.r (m.opts.map encO),.s m.pay,.i n]) Z9l ?_;simp only[QR,ra,Z1n,Z1o,Zj];intro b1;generalize m.opts=os at hl⊢;refine⟨λvs=>∃(x y:V) (i:Nat),vs=[x,y,.i i]/\i<=os.length/\∀j,j<i->(os.getD j oD).1≠n,λvs=>(os.length - (vs.getD 2 (.i 0)).toI).toNat,⟨_,_,0,rfl,O,λj hj=>O⟩,?_⟩;rintro _ - ⟨x,y,i,rfl,hi,hn⟩;simp only[QR,ra,Z1n,Z1o,Zj];refine⟨λh1=>?_,λh1 w' hr=>⟨by rw[Z3m,Zx9 λj hj=>hn j O],hr.mod⟩⟩
 (repeat refine⟨O,?_⟩)
 refine⟨λh2=>?_,λh2=>?_⟩
 ·(repeat refine⟨O,?_⟩)
  refine⟨⟨_,_,i+1,rfl,O,λj hj=>?_⟩,O⟩;by_cases hji:j=i
  ·subst hji;exact h2
  exact hn j O
 obtain⟨r,e⟩:=Zmx O hn (qy9.1 h2);have eu:Z3m n os=Zll (os.getD i oD).2:=by rw[Z3m,e]
 rw[eu];generalize (os.getD i oD).2=s;refine⟨λh3 w' hr=>⟨by rw[Zll,ϝ h3],hr.mod⟩,λh3=>?_⟩;refine⟨λvs=>∃k:Nat,vs=[.i (beN (s.take k) 0),.i k]/\k<=s.length,λvs=>(s.length - (vs.getD 1 (.i 0)).toI).toNat,⟨0,rfl,O⟩,?_⟩;rintro _ - ⟨k,rfl,hk⟩;simp only[QR,ra,Z1n,Z1o,Zj];have hb:=Zwu (s.take k) 0;rw[ε,Nat.one_mul]at hb;have hp:pw (s.take k).length<=pw 3:=Zb6 (by rw[Ϙ];omega);have hp3:pw 3=16777216:=rfl;refine⟨λh4=>?_,λh4 w' hr=>⟨?_,hr.mod⟩⟩
 ·have hc:=Z5c (s.getD k 0)
  (repeat refine⟨O,?_⟩)
  refine⟨⟨k+1,?_,O⟩,O⟩;rw[Z149 s k O];rfl
 have:k=s.length:=O;subst this;rw[ϔ,Zll,ϛ h3]
def Zgu:∀(l:List By) (x:By),Z4d (l++[x])=if l=[]then x else Z4d l++47::x
 | [],x=>rfl
 | [y],x=>by simp[Z4d]
 | y::z::l,x=>by have:=Zgu (z::l) x;rw[ϛ O1]at this;rw[ϛ O1];simp only[List.cons_append,Z4d]at this⊢;rw[this];simp
def Z9x(b:Nat):∀(l:List By),(∀x∈l,x.length<=b)->(Z4d l).length<=l.length*(b+1)
 | [],_=>by simp[Z4d]
 | [y],h=>by have:=h y O1;simp[Z4d];omega
 | y::z::l,h=>by have h1:=Z9x b (z::l) λx hx=>h x (qy10 _ hx);have h2:=h y O1;simp only[Z4d,qy11,ϻ,Nat.add_mul]at h1⊢;omega
def Zej:∀{os:List Opt} {was:Int},optE was os=0->∀o∈os,o.2.length<=60
 | [],_,_,o,ho=>by simp at ho
 | x::os,was,h,o,ho=>by
  obtain⟨-,-,h3,h4⟩:=Z144.1 h;rcases γ.1 ho with rfl|ho
  ·exact h3
  exact Zej h4 o ho
def Zp2{n:Int}{x:By}(h:x∈Zm n os):∃o∈os,o.2=x:=by simp only[Zm,Ϭ,List.mem_filter]at h;obtain⟨o,⟨h1,-⟩,h2⟩:=h;exact⟨o,h1,h2⟩
def Z9y:∀s:By,(1<(lev s).length)↔(s.any λc=>c == 47)=ϫ
 | []=>by simp[lev]
 | c::s=>by
  have ih:=Z9y s;by_cases h:c=47
  ·subst h;obtain⟨y,ys,e⟩:=Zmb s;rw[Z8n,e];simp
  obtain⟨y,ys,e⟩:=Zmb s;rw[Z6h _ h,e];rw[e]at ih;simpa[glue,h]using ih
def Zrv(h:Zm 11 os=[]):Z1f os=([],5):=ϝ h
def Zxa(h:¬Zm 11 os=[])(h1:¬chkT (Z4d (Zm 11 os)) Ϣ=0):Z1f os=([],chkT (Z4d (Zm 11 os)) Ϣ):=by rw[Z1f,ϛ h,ϛ h1]
def Zrw(h:¬Zm 11 os=[])(h1:chkT (Z4d (Zm 11 os)) Ϣ=0)(h2:(Zm 11 os).any (λv=>v.any λc=>c == 47)=ϫ):Z1f os=([],1):=by rw[Z1f,ϛ h,ϝ h1,ϝ h2]
def Zrx(h:¬Zm 11 os=[])(h1:chkT (Z4d (Zm 11 os)) Ϣ=0)(h2:¬(Zm 11 os).any (λv=>v.any λc=>c == 47)=ϫ):Z1f os=(Z4d (Zm 11 os),0):=by rw[Z1f,ϛ h,ϝ h1,ϛ h2]
def Z19p(w:ϑ)(m:Msg)(v:ϒ)(hv:Z3q w v m.opts)(hc:chk m=0): ϕ ϐ 207 #[mV m (sc1 v)] w λe w'=>e=.returned (.tuple #[.string ⟨(Z1f m.opts).1.toArray⟩,.int .i64 (Z1f m.opts).2])/\Mod [] w w':=by
 obtain⟨-,-,hl,ho,-⟩:=Zac.1 hc;refine Wr (J:=[.i m.kind,.i m.code,.i m.id,.s m.tok,.v v,.r (m.opts.map encO),.s m.pay]) Zdp ?_;simp only[QR,ra,Z1n,Z1o,Zj];intro b1;replace hl:=hl.2.1;generalize m.opts=os at hl ho⊢;have hvl:=Zi5 11 os;have hul:(Z4d (Zm 11 os)).length<=12*61:=ϭ (Z9x 60 _ λx hx=>by obtain⟨o,h1,rfl⟩:=Zp2 hx;exact Zej ho o h1) O;refine⟨λvs=>∃(s:ϒ) (i:Nat),vs=[.v s,.r ((Zm 11 (os.take i)).map Z1k),.b ((Zm 11 (os.take i)).any λv=>v.any λc=>c == 47),.i i]/\i<=os.length,λvs=>(os.length - (vs.getD 3 (.i 0)).toI).toNat,⟨_,0,rfl,O⟩,?_⟩;rintro _ - ⟨s,i,rfl,hi⟩;simp only[QR,ra,Z1n,Z1o,Zj];refine⟨λh1=>?_,λh1=>?_⟩
 ·have hs:=Zru 11 os i O;have hvi:=Zi5 11 (os.take i);rw[Ϙ]at hvi
  (repeat refine⟨O,?_⟩)
  intro b2;refine⟨λh2 v1=>⟨O3,λv2=>by rw[ϝ h2]at hs;refine⟨[.b ((os.getD i oD).2.any λc=>c == 47)],rfl,λ_ w' _=>Z1k1 w' _,?_⟩;simp only[QR,ra,Z1n,Z1o,Zj];refine⟨O,O,⟨v2,i+1,?_,O⟩,O⟩;rw[hs];simp[Z1k]⟩,λh2=>?_⟩;rw[ϛ h2,Ϡ]at hs
  (repeat refine⟨O,?_⟩)
  exact⟨⟨s,i+1,by rw[hs];rfl,O⟩,O⟩
 have:i=os.length:=O;subst this;rw[ϔ];refine⟨λh2 w' hr=>⟨?_,hr.mod⟩,λh2=>?_⟩
 ·rw[Zrv (ϓ.1 O)]
 have h2:¬Zm 11 os=[]:=λh=>h2 (by rw[h];rfl);refine⟨[.s (Z4d (Zm 11 os))],rfl,λ_ w' hr=>Z19n w' s _ (hr.at_ 0 rfl) O O,?_⟩;simp only[QR,ra];refine⟨[.i (chkT (Z4d (Zm 11 os)) Ϣ)],rfl,λ_ w' hr=>Zr6 w' _ O,?_⟩;simp only[QR,ra];exact⟨λh3=>⟨λ_ w' hr=>⟨by rw[Zrw h2 h3.1 h3.2],hr.mod⟩,λh=>(h U).elim⟩,λh3=>⟨λh4 w' hr=>⟨by rw[Zxa h2 h4],hr.mod⟩,λh4 w' hr=>⟨(by have h4:=qy9.1 h4;rw[Zrx h2 h4 λh=>h3 ⟨h4,h⟩]),hr.mod⟩⟩⟩
def Z14b(w:ϑ)(m:Msg)(v:ϒ)(hv:Z3q w v m.opts)(hc:chk m=0): ϕ ϐ 73 #[mV m (sc1 v)] w λe w'=>e=.returned (.tuple #[.string ⟨(Z1f m.opts).1.toArray⟩,.int .i64 (Z1f m.opts).2])/\Mod [] w w':=by
 obtain⟨-,-,hl,ho,-⟩:=Zac.1 hc;refine Wr (J:=[.i m.kind,.i m.code,.i m.id,.s m.tok,.v v,.r (m.opts.map encO),.s m.pay]) Z9f ?_;simp only[QR,ra,Z1n,Z1o,Zj];intro b1;replace hl:=hl.2.1;generalize m.opts=os at hl ho⊢;have hvl:=Zi5 11 os;have hul:(Z4d (Zm 11 os)).length<=12*61:=ϭ (Z9x 60 _ λx hx=>by obtain⟨o,h1,rfl⟩:=Zp2 hx;exact Zej ho o h1) O;refine⟨λvs=>∃i:Nat,vs=[.s (Z4d (Zm 11 (os.take i))),.i (Zm 11 (os.take i)).length,.b ((Zm 11 (os.take i)).any λv=>v.any λc=>c == 47),.i i]/\i<=os.length,λvs=>(os.length - (vs.getD 3 (.i 0)).toI).toNat,⟨0,rfl,O⟩,?_⟩;rintro _ - ⟨i,rfl,hi⟩;simp only[QR,ra,Z1n,Z1o,Zj];refine⟨λh1=>?_,λh1=>?_⟩
 ·have hs:=Zru 11 os i O;have hvi:=Zi5 11 (os.take i);rw[Ϙ]at hvi;have hui:(Z4d (Zm 11 (os.take i))).length<=12*61:=ϭ (Z9x 60 _ λx hx=>by obtain⟨o,h1,rfl⟩:=Zp2 hx;exact Zej ho o (List.mem_of_mem_take h1)) O;have hval:(os.getD i oD).2.length<=60:=Zej ho _ (by rw[qy1,qy7 O];exact List.getElem_mem _)
  (repeat refine⟨O,?_⟩)
  refine⟨λh2=>?_,λh2=>?_⟩
  ·rw[ϛ h2,Ϡ]at hs
   (repeat refine⟨O,?_⟩)
   exact⟨⟨i+1,by rw[hs];rfl,O⟩,O⟩
  rw[ϝ (qy9.1 h2)]at hs;generalize Zm 11 (os.take i)=l at hs hvi hui⊢;generalize (os.getD i oD).2=x at hs hval⊢
  have hus:=Zgu l x;refine⟨λh3=>?_,λh3=>?_⟩
  ·rw[ϛ (λh=>by rw[h]at h3;simp at h3)]at hus;refine⟨O,O3,O,O,λh4=>(by refine⟨O,O,⟨i+1,?_,O⟩,O⟩;rw[hs,hus,β,h4];simp),λh4 w1 hr=>?_⟩
   ·refine(Z8o w1 x O).mono ?_;rintro e w2 ⟨v1,rfl,r1,f1,m1⟩;refine⟨[.v v1,.r ((lev x).map Z1k)],rfl,rfl,m1,qy5 _,qy2.2 ⟨⟨r1,λk hk=>.inl (f1 k hk)⟩,qy5 _⟩,Z2,?_⟩;simp only[QR,ra,Z1n,Z1o,Zj];refine⟨O,O,⟨i+1,?_,O⟩,O⟩;have e2:decide ((1:Int)<((lev x).length))=x.any λc=>c == 47:=by rw[Ϯ,ϡ,<- Z9y];omega
    rw[hs,hus,β,Bool.eq_false_iff.2 h4,e2];simp
  have hl0:l=[]:=ϓ.1 O;subst hl0;rw[ϝ rfl]at hus;refine⟨by simp[Z4d];omega,O1,O1,λh4=>by simp at h4,λh4 w1 hr=>?_⟩;refine(Z8o w1 x O).mono ?_;rintro e w2 ⟨v1,rfl,r1,f1,m1⟩;refine⟨[.v v1,.r ((lev x).map Z1k)],rfl,rfl,m1,qy5 _,qy2.2 ⟨⟨r1,λk hk=>.inl (f1 k hk)⟩,qy5 _⟩,Z2,?_⟩;simp only[QR,ra,Z1n,Z1o,Zj];refine⟨O,O,⟨i+1,?_,O⟩,O⟩;have e2:decide ((1:Int)<((lev x).length))=x.any λc=>c == 47:=by rw[Ϯ,ϡ,<- Z9y];omega
  rw[hs,hus,e2];simp[Z4d]
 have:i=os.length:=O;subst this;rw[ϔ];refine⟨λh2 w' hr=>⟨?_,hr.mod⟩,λh2=>?_⟩
 ·rw[Zrv (ϓ.1 O)]
 have h2:¬Zm 11 os=[]:=λh=>h2 (by rw[h];rfl);refine⟨[.i (chkT (Z4d (Zm 11 os)) Ϣ)],rfl,λ_ w' hr=>Z3f w' _ Ϣ O,?_⟩;simp only[QR,ra];exact⟨λh3=>⟨λ_ w' hr=>⟨by rw[Zrw h2 h3.1 h3.2],hr.mod⟩,λh=>(h U).elim⟩,λh3=>⟨λh4 w' hr=>⟨by rw[Zxa h2 h4],hr.mod⟩,λh4 w' hr=>⟨(by have h4:=qy9.1 h4;rw[Zrx h2 h4 λh=>h3 ⟨h4,h⟩,h4]),hr.mod⟩⟩⟩
def Zk1(n:Nat)(v:ϒ)(os:List Opt):Prop:=∀k,(os.map encO).flatten≠[]/\Z1 v k->n<=k
def Zk1.mono{n m:Nat}{v:ϒ}(h:Zk1 n v os)(hm:m<=n):Zk1 m v os:=λk hk=>ϭ hm (h k hk)
def Z104(n:Nat)(v:ϒ):Zk1 n v []:=λk hk=>ϟ rfl hk.1
def Zp3(w:ϑ)(m n:Msg)(u v:ϒ)(hu:Z3q w u m.opts)(hv:Z3q w v n.opts)(hl:m.opts.length<1099511627776):ϕ ϐ 102 #[mV m (sc1 u),mV n (sc1 v)] w λe w'=>e=.returned (.bool (decide (m.kind=n.kind/\m.code=n.code/\m.id=n.id/\m.tok=n.tok/\m.pay=n.pay/\m.opts=n.opts)))/\Mod [] w w':=by
 refine Wr (J:=[.i m.kind,.i m.code,.i m.id,.s m.tok,.v u,.r (m.opts.map encO),.s m.pay,.i n.kind,.i n.code,.i n.id,.s n.tok,.v v,.r (n.opts.map encO),.s n.pay]) Z5j ?_;simp only[QR,ra];intro b1 b2;refine⟨λh w' hr=>⟨?_,hr.mod⟩,λh=>?_⟩
 ·rw[decide_eq_false];rintro⟨h1,h2,h3,h4,h5,h6⟩;rcases h with((((h|h)|h)|h)|h)|h
  ·exact h h1
  ·exact h h2
  ·exact h h3
  ·exact h h4
  ·exact h h5
  exact h (by rw[h6])
 simp only[not_or,qy9]at h;obtain⟨⟨⟨⟨⟨h1,h2⟩,h3⟩,h4⟩,h5⟩,h6⟩:=h;have hlen:m.opts.length=n.opts.length:=O;refine⟨λvs=>∃(i:Nat) (x:V),vs=[x,.i i]/\i<=m.opts.length/\∀j,j<i->m.opts.getD j oD=n.opts.getD j oD,λvs=>(m.opts.length - (vs.getD 1 (.i 0)).toI).toNat,⟨0,_,rfl,O,λj hj=>O⟩,?_⟩;rintro _ - ⟨i,x,rfl,hi,hall⟩;simp only[QR,ra,Z1n,Z1o];refine⟨λh7=>⟨O,O,λh8 w' hr=>⟨(by rw[decide_eq_false];rintro⟨-,-,-,-,-,h9⟩;rw[h9]at h8;exact h8 ⟨rfl,rfl⟩),hr.mod⟩,λh8=>⟨O,O,⟨i+1,x,rfl,O,λj hj=>?_⟩,O⟩⟩,λh7 w' hr=>⟨?_,hr.mod⟩⟩
 ·by_cases hji:j=i
  ·subst hji;have:=qy9.1 h8;exact Prod.ext this.1 this.2
  exact hall j O
 rw[decide_eq_true];refine⟨h1,h2,h3,h4,h5,List.ext_getElem? λj=>?_⟩;by_cases hj:j<m.opts.length
 ·have:=hall j O;rw[qy1,qy1,qy7 hj,qy7 O]at this;rw[qy7 hj,qy7 O];simpa using this
 rw[ϰ O,ϰ O]
def Z50{J:List V}{es:List Ent}(h:∀e∈es,e.wr=Ϣ):Zt J es:=by refine List.pairwise_iff_forall_sublist.2 λ{a b} hs hw=>?_;have h1:=h a (hs.subset O1);have h2:=h b (hs.subset O1);rw[h1,h2]at hw;simp at hw
section
variable (w:ϑ) (p:Pkt) (u v:ϒ) (hu:Z4h w u p.asks) (hv:Z3p w v p.codes) (hs:SmallP p)
include hu hv
def Z1er:ϕ ϐ 143 #[pV p u v] w λe w'=>∃x y,e=.returned (pV (Z1l p) x y)/\Z4h w' x (Z1l p).asks/\Z3p w' y (Z1l p).codes /\ (x=u/\(Z1l p).asks=p.asks\/(Z1l p).asks=[])/\(y=v/\(Z1l p).codes=p.codes\/(Z1l p).codes=[])/\Mod [] w w':=by
 refine Wr (J:=[.i p.kind,.b p.dup,.b p.retain,.b p.clean,.b p.session,.i p.qos,.i p.id,.i p.keep,.i p.code,.s p.client,.s p.topic,.s p.payload,.v u,.r (p.asks.map encA),.v v,.r (p.codes.map Zg)]) Zhe ?_;simp only[QR,ra];intro b1 b2;have g4:∀q:Pkt,q.kind=p.kind->p.kind≠1->p.kind≠2->p.kind≠3->(p.kind=4\/p.kind=11)->Z1l p={ p with id:=0 }:=λq _ h1 h2 h3 h=>by rw[Z1l,ϛ h1,ϛ h2,ϛ h3,ϝ h]
 have g8:p.kind≠1->p.kind≠2->p.kind≠3->¬(p.kind=4\/p.kind=11)->(p.kind=8\/p.kind=10)->Z1l p={ p with id:=0,asks:=[] }:=λh1 h2 h3 h4 h=>by rw[Z1l,ϛ h1,ϛ h2,ϛ h3,ϛ h4,ϝ h]
 refine⟨λh1 w' hr=>?_,λh1=>⟨λh2 w' hr=>?_,λh2=>⟨λh3 w' hr=>?_,λh3=>⟨λh4 w' hr=>(by rw[g4 p rfl h1 h2 h3 (.inl h4)];exact⟨u,v,rfl,hr.at_ 2 rfl,hr.at_ 3 rfl,.inl ⟨rfl,rfl⟩,.inl ⟨rfl,rfl⟩,hr.mod⟩),λh4=>⟨λh5 w' hr=>(by rw[g4 p rfl h1 h2 h3 (.inr h5)];exact⟨u,v,rfl,hr.at_ 2 rfl,hr.at_ 3 rfl,.inl ⟨rfl,rfl⟩,.inl ⟨rfl,rfl⟩,hr.mod⟩),λh5=>⟨λh6 w' hr=>(by rw[g8 h1 h2 h3 O (.inl h6)];exact⟨.slice Ϟ 0 0,v,rfl,Zbn _,hr.at_ 3 rfl,.inr rfl,.inl ⟨rfl,rfl⟩,hr.mod⟩),λh6=>⟨λh7 w' hr=>(by rw[g8 h1 h2 h3 O (.inr h7)];exact⟨.slice Ϟ 0 0,v,rfl,Zbn _,hr.at_ 3 rfl,.inr rfl,.inl ⟨rfl,rfl⟩,hr.mod⟩),λh7=>⟨λh8 w' hr=>?_,λh8 w' hr=>?_⟩⟩⟩⟩⟩⟩⟩⟩
 ·have e:Z1l p={ p with client:=[],clean:=Ϣ,keep:=0 }:=by rw[Z1l,ϝ h1]
  rw[e];exact⟨u,v,rfl,hr.at_ 2 rfl,hr.at_ 3 rfl,.inl ⟨rfl,rfl⟩,.inl ⟨rfl,rfl⟩,hr.mod⟩
 ·have e:Z1l p={ p with code:=0,session:=Ϣ }:=by rw[Z1l,ϛ h1,ϝ h2]
  rw[e];exact⟨u,v,rfl,hr.at_ 2 rfl,hr.at_ 3 rfl,.inl ⟨rfl,rfl⟩,.inl ⟨rfl,rfl⟩,hr.mod⟩
 ·have e:Z1l p={ p with dup:=Ϣ,qos:=0,retain:=Ϣ,topic:=[],payload:=[],id:=0 }:=by rw[Z1l,ϛ h1,ϛ h2,ϝ h3]
  rw[e];exact⟨u,v,rfl,hr.at_ 2 rfl,hr.at_ 3 rfl,.inl ⟨rfl,rfl⟩,.inl ⟨rfl,rfl⟩,hr.mod⟩
 ·have e:Z1l p={ p with id:=0,codes:=[] }:=by rw[Z1l,ϛ h1,ϛ h2,ϛ h3,ϛ O,ϛ O,ϝ h8]
  rw[e];exact⟨u,.slice Ϟ 0 0,rfl,hr.at_ 2 rfl,Zfz _,.inl ⟨rfl,rfl⟩,.inr rfl,hr.mod⟩
 have e:Z1l p=p:=by rw[Z1l,ϛ h1,ϛ h2,ϛ h3,ϛ O,ϛ O,ϛ h8]
 rw[e];exact⟨u,v,rfl,hr.at_ 2 rfl,hr.at_ 3 rfl,.inl ⟨rfl,rfl⟩,.inl ⟨rfl,rfl⟩,hr.mod⟩
include hs
def Zi6:ϕ ϐ 147 #[pV p u v] w λe w'=>e=.returned (.int .i64 (Z2b p))/\Mod [] w w':=by
 refine Wr (J:=[.i p.kind,.b p.dup,.b p.retain,.b p.clean,.b p.session,.i p.qos,.i p.id,.i p.keep,.i p.code,.s p.client,.s p.topic,.s p.payload,.v u,.r (p.asks.map encA),.v v,.r (p.codes.map Zg)]) Zfi ?_;simp only[QR,ra];intro b;refine⟨λh1=>(by refine⟨[.i (Zjs p)],rfl,λ_ w' hr=>Zzv w' p u v (hr.at_ 1 rfl) (hr.at_ 2 rfl) hs,?_⟩;simp only[QR,ra];exact λw' hr=>⟨by rw[Z2b,ϝ h1],hr.mod⟩),λh1=>⟨λh2=>(by refine⟨[.i (Z4v p)],rfl,λ_ w' hr=>Zzu w' p u v (hr.at_ 1 rfl) (hr.at_ 2 rfl),?_⟩;simp only[QR,ra];exact λw' hr=>⟨by rw[Z2b,ϛ h1,ϝ h2],hr.mod⟩),λh2=>⟨λh3=>(by refine⟨[.i (pubE p)],rfl,λ_ w' hr=>Zms w' p u v (hr.at_ 1 rfl) (hr.at_ 2 rfl) hs,?_⟩;simp only[QR,ra];exact λw' hr=>⟨by rw[Z2b,ϛ h1,ϛ h2,ϝ h3],hr.mod⟩),λh3=>⟨λh4=>(by refine⟨[.i (Zjt p)],rfl,λ_ w' hr=>Z13t w' p u v (hr.at_ 1 rfl) (hr.at_ 2 rfl) hs,?_⟩;simp only[QR,ra];exact λw' hr=>⟨by rw[Z2b,ϛ h1,ϛ h2,ϛ h3,ϝ (.inl h4)],hr.mod⟩),λh4=>⟨λh5=>(by refine⟨[.i (Zjt p)],rfl,λ_ w' hr=>Z13t w' p u v (hr.at_ 1 rfl) (hr.at_ 2 rfl) hs,?_⟩;simp only[QR,ra];exact λw' hr=>⟨by rw[Z2b,ϛ h1,ϛ h2,ϛ h3,ϝ (.inr h5)],hr.mod⟩),λh5=>⟨λh6=>(by refine⟨[.i (Zc9 p)],rfl,λ_ w' hr=>Z19d w' p u v (hr.at_ 1 rfl) (hr.at_ 2 rfl) hs,?_⟩;simp only[QR,ra];exact λw' hr=>⟨by rw[Z2b,ϛ h1,ϛ h2,ϛ h3,ϛ O,ϝ h6],hr.mod⟩),λh6 w' hr=>⟨by rw[Z2b,ϛ h1,ϛ h2,ϛ h3,ϛ O,ϛ h6],hr.mod⟩⟩⟩⟩⟩⟩⟩
def Zi7:ϕ ϐ 91 #[pV p u v] w λe w'=>e=.returned (.int .i64 (chkP p))/\Mod [] w w':=by
 refine Wr (J:=[.i p.kind,.b p.dup,.b p.retain,.b p.clean,.b p.session,.i p.qos,.i p.id,.i p.keep,.i p.code,.s p.client,.s p.topic,.s p.payload,.v u,.r (p.asks.map encA),.v v,.r (p.codes.map Zg)]) Zfg ?_;simp only[QR,ra];intro b;refine⟨[.b (Z3i p.kind)],rfl,λ_ w' _=>Zug w' _,?_⟩;simp only[QR,ra];refine⟨λh w' hr=>⟨by rw[chkP,ϛ h],hr.mod⟩,λh=>?_⟩;have h:=qy9.1 h;rw[chkP,ϝ h];intro w1 hr;refine(Z1er w1 p u v (hr.at_ 1 rfl) (hr.at_ 2 rfl)).mono ?_;rintro e w2 ⟨x,y,rfl,rx,ry,ex,ey,m2⟩;generalize hq:Z1l p=q at rx ry ex ey⊢
 have hsq:SmallP q:=by rw[<- hq];exact hs.bare
 refine⟨[.i q.kind,.b q.dup,.b q.retain,.b q.clean,.b q.session,.i q.qos,.i q.id,.i q.keep,.i q.code,.s q.client,.s q.topic,.s q.payload,.v x,.r (q.asks.map encA),.v y,.r (q.codes.map Zg)],rfl,rfl,m2,qy5 _,qy2.2 ⟨⟨rx,λk hk=>.inr (.inl ⟨rfl,?_⟩)⟩,qy2.2 ⟨⟨ry,λk hk=>.inr (.inl ⟨rfl,?_⟩)⟩,qy5 _⟩⟩,Z50 (by simp[Ent.wr]),?_⟩
 ·rcases ex with⟨rfl,e1⟩|e1
  ·refine⟨_,qy10 _ (qy8 ..),rfl,?_⟩;simp only[Ent.fp,QQ,ϩ]at hk⊢;rw[e1]at hk;exact hk
  simp only[Ent.fp,QQ,ϩ,e1]at hk;exact ϟ rfl hk.1
 ·rcases ey with⟨rfl,e1⟩|e1
  ·refine⟨_,qy10 _ (qy10 _ (qy8 ..)),rfl,?_⟩;simp only[Ent.fp,QQ,ϩ]at hk⊢;rw[e1]at hk;exact hk
  simp only[Ent.fp,QQ,ϩ,e1]at hk;exact ϟ rfl hk.1
 simp only[QR,ra];refine⟨[.b (Z7l q)],rfl,λ_ w' hr=>Z19c w' q x y (hr.at_ 0 rfl) (hr.at_ 1 rfl) hsq,?_⟩;simp only[QR,ra];refine⟨λh w' hr=>⟨by rw[ϛ h],hr.mod⟩,λh=>?_⟩;have h:=qy9.1 h;rw[ϝ h];refine⟨λh1=>(by refine⟨[.i (pubE p)],rfl,λ_ w' hr=>Zms w' p u v (hr.at_ 3 rfl) (hr.at_ 4 rfl) hs,?_⟩;simp only[QR,ra];refine⟨λh2 w' hr=>⟨by rw[ϝ ⟨h1,h2⟩],hr.mod⟩,λh2=>?_⟩;have hn:¬(p.kind=3/\pubE p≠0):=λhh=>h2 hh.2;refine⟨[.b (idB p)],rfl,λ_ w' hr=>Z19b w' p u v (hr.at_ 3 rfl) (hr.at_ 4 rfl),?_⟩;simp only[QR,ra];refine⟨λh3=>⟨λh4 w' hr=>⟨?_,hr.mod⟩,λh4=>?_⟩,λh3=>?_⟩;(· rw[ϛ O5,ϝ ⟨h3,h4⟩]);(· rw[ϛ O5,ϛ (λhh=>h4 hh.2)];refine⟨[.i (Z2b p)],rfl,λ_ w' hr=>Zi6 w' p u v (hr.at_ 3 rfl) (hr.at_ 4 rfl) hs,?_⟩;simp only[QR,ra];exact λw' hr=>⟨O6,hr.mod⟩);(· rw[ϛ O5,ϛ (λhh=>h3 hh.1)];refine⟨[.i (Z2b p)],rfl,λ_ w' hr=>Zi6 w' p u v (hr.at_ 3 rfl) (hr.at_ 4 rfl) hs,?_⟩;simp only[QR,ra];exact λw' hr=>⟨O6,hr.mod⟩)),λh1=>by have hn:¬(p.kind=3/\pubE p≠0):=λhh=>h1 hh.1;refine⟨[.b (idB p)],rfl,λ_ w' hr=>Z19b w' p u v (hr.at_ 3 rfl) (hr.at_ 4 rfl),?_⟩;simp only[QR,ra];refine⟨λh3=>⟨λh4 w' hr=>⟨?_,hr.mod⟩,λh4=>?_⟩,λh3=>?_⟩;(· rw[ϛ O5,ϝ ⟨h3,h4⟩]);(· rw[ϛ O5,ϛ (λhh=>h4 hh.2)];refine⟨[.i (Z2b p)],rfl,λ_ w' hr=>Zi6 w' p u v (hr.at_ 3 rfl) (hr.at_ 4 rfl) hs,?_⟩;simp only[QR,ra];exact λw' hr=>⟨O6,hr.mod⟩);(· rw[ϛ O5,ϛ (λhh=>h3 hh.1)];refine⟨[.i (Z2b p)],rfl,λ_ w' hr=>Zi6 w' p u v (hr.at_ 3 rfl) (hr.at_ 4 rfl) hs,?_⟩;simp only[QR,ra];exact λw' hr=>⟨O6,hr.mod⟩)⟩
end
